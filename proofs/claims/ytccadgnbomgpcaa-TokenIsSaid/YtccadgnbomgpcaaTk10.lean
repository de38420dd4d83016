-- Written by a program of this session (wip/inj.py) over the kit's own print; Lean checks it.
import Derived.Test.YtccadgnbomgpcaaTk0
import Derived.Test.YtccadgnbomgpcaaTk9
import Derived.Test.YtccadgnbomgpcaaTkHead
namespace Go.Proofs.Ytccadgnbomgpcaa.Tk
open Go.RowKit Go.Proofs.YtccadgnbomgpcaaW.PrintWords Go.Proofs.YtccadgnbomgpcaaW.PrintLast Go.Proofs.YtccadgnbomgpcaaW.PrintMore
attribute [local go_sem] max2_int min2_int max_two min_two max_three min_three max_four min_four   -- for this text's walks alone
set_option linter.unusedVariables false
set_option linter.unusedSimpArgs false

/-! ### woodcutlaw07_TokenIs: function 4 -/
def woodcutlaw07_TokenIs.l0 : Nat → Int → List ByteArray → Bool → List ByteArray → Int → Int → Int → ByteArray → List (S28) → Bool → ByteArray → ByteArray → ByteArray → Bool → Bool → Bool → Option (Bool)
  | 0, _, _, _, _, _, _, _, _, _, _, _, _, _, _, _, _ => none
  | k + 1, x1, x2, x7, x15, x16, x17, x154000, x154001, x154002, x154003, x154004, x154005, x154006, x154007, x154008, x154009 => if x17 < x16 then (if 0 ≤ x17 then (if x17 < (x15.length : Int) then (if x7 = true then (woodcutlaw07_TokenIs.l0 k x1 x2 true x15 x16 (wrap64 (x17 + 1)) x154000 x154001 x154002 x154003 x154004 x154005 x154006 x154007 x154008 x154009) else (woodcutlaw07_TokenIs.l0 k x1 x2 ((rdOf ByteArray.empty x15 x17).toList == x154001.toList) x15 x16 (wrap64 (x17 + 1)) x154000 x154001 x154002 x154003 x154004 x154005 x154006 x154007 x154008 x154009)) else (none)) else (none)) else ((token_Token_Is.f k x154000 x154001 x154002 x154003 x154004 x154005 x154006 x154007 x154008 x154009 x1 x2).bind fun t156 => (if x7 = true then (some (t156 == (x154000 == x1))) else (some (t156 == false))))
def woodcutlaw07_TokenIs.f (k : Nat) (a0_0 : Int) (a0_1 : ByteArray) (l0_2 : List (S28)) (a0_3 : Bool) (a0_4 : ByteArray) (a0_5 : ByteArray) (a0_6 : ByteArray) (a0_7 : Bool) (a0_8 : Bool) (a0_9 : Bool) (a1 : Int) (l2 : List ByteArray) : Option (Bool) := (woodcutlaw07_head.f).bind fun t154 => (if t154 = true then (if (l2.length : Int) > 20 then (some true) else (woodcutlaw07_TokenIs.l0 k a1 l2 false l2 (l2.length : Int) 0 a0_0 a0_1 l0_2 a0_3 a0_4 a0_5 a0_6 a0_7 a0_8 a0_9)) else (some false))
theorem woodcutlaw07_TokenIs.mono_l : ∀ k, (∀ y0 y1 y2 y3 y4 y5 y6 y7 y8 y9 y10 y11 y12 y13 y14 y15, LeO (woodcutlaw07_TokenIs.l0 k y0 y1 y2 y3 y4 y5 y6 y7 y8 y9 y10 y11 y12 y13 y14 y15) (woodcutlaw07_TokenIs.l0 (k + 1) y0 y1 y2 y3 y4 y5 y6 y7 y8 y9 y10 y11 y12 y13 y14 y15))
  | 0 => fun _ _ _ _ _ _ _ _ _ _ _ _ _ _ _ _ r h => by simp [woodcutlaw07_TokenIs.l0] at h
  | k + 1 => by
    have ih0 := woodcutlaw07_TokenIs.mono_l k
    · intro y0 y1 y2 y3 y4 y5 y6 y7 y8 y9 y10 y11 y12 y13 y14 y15
      unfold woodcutlaw07_TokenIs.l0
      repeat' first
      | (with_reducible exact ih0 _ _ _ _ _ _ _ _ _ _ _ _ _ _ _ _)
      | (with_reducible exact token_Token_Is.mono _ _ _ _ _ _ _ _ _ _ _ _ _)
      | (with_reducible exact LeO.refl _)
      | (with_reducible exact LeO.none _)
      | (with_reducible refine LeO.ite ?_ ?_)
      | (with_reducible refine LeO.bind ?_ (fun _ => ?_))
      | exact ih0 _ _ _ _ _ _ _ _ _ _ _ _ _ _ _ _
      | exact token_Token_Is.mono _ _ _ _ _ _ _ _ _ _ _ _ _
      | exact LeO.none _
      | refine LeO.ite ?_ ?_
      | refine LeO.bind ?_ (fun _ => ?_)
theorem woodcutlaw07_TokenIs.mono : ∀ a0 a1 a2 a3 a4 a5 a6 a7 a8 a9 a10 a11 k, LeO (woodcutlaw07_TokenIs.f k a0 a1 a2 a3 a4 a5 a6 a7 a8 a9 a10 a11) (woodcutlaw07_TokenIs.f (k + 1) a0 a1 a2 a3 a4 a5 a6 a7 a8 a9 a10 a11) := by
  intro a0 a1 a2 a3 a4 a5 a6 a7 a8 a9 a10 a11 k
  have ih0 := woodcutlaw07_TokenIs.mono_l k
  unfold woodcutlaw07_TokenIs.f
  repeat' first
      | (with_reducible exact ih0 _ _ _ _ _ _ _ _ _ _ _ _ _ _ _ _)
      | (with_reducible exact token_Token_Is.mono _ _ _ _ _ _ _ _ _ _ _ _ _)
      | (with_reducible exact LeO.refl _)
      | (with_reducible exact LeO.none _)
      | (with_reducible refine LeO.ite ?_ ?_)
      | (with_reducible refine LeO.bind ?_ (fun _ => ?_))
      | exact ih0 _ _ _ _ _ _ _ _ _ _ _ _ _ _ _ _
      | exact token_Token_Is.mono _ _ _ _ _ _ _ _ _ _ _ _ _
      | exact LeO.none _
      | refine LeO.ite ?_ ?_
      | refine LeO.bind ?_ (fun _ => ?_)
set_option maxHeartbeats 8000000 in
set_option maxRecDepth 100000 in
theorem woodcutlaw07_TokenIs.calls (k : Nat) (a0_0 : Int) (a0_1 : ByteArray) (A0_2 : Option Addr) (c0_2 : Nat) (l0_2 : List (S28)) (a0_3 : Bool) (a0_4 : ByteArray) (a0_5 : ByteArray) (a0_6 : ByteArray) (a0_7 : Bool) (a0_8 : Bool) (a0_9 : Bool) (a1 : Int) (A2 : Option Addr) (c2 : Nat) (l2 : List ByteArray) (r : Bool) (w : World) (hr0_2 : Kd.C k28 w A0_2 l0_2.length l0_2) (hc0_2 : l0_2.length ≤ c0_2) (hr2 : Kd.C Kd.string w A2 l2.length l2) (hc2 : l2.length ≤ c2) (h : woodcutlaw07_TokenIs.f k a0_0 a0_1 l0_2 a0_3 a0_4 a0_5 a0_6 a0_7 a0_8 a0_9 a1 l2 = some r) :
    Calls Try.prog 4 #[.agg #[.int .i64 a0_0, .string a0_1, .slice A0_2 l0_2.length c0_2, .bool a0_3, .string a0_4, .string a0_5, .string a0_6, .bool a0_7, .bool a0_8, .bool a0_9], .int .i64 a1, .slice A2 l2.length c2] w fun e w' => e = .returned (.bool r) ∧ Below w.heap.size w w' := by
  have hu24 := Try.underlying24
  have HR0_2 := Aside0.mk hr0_2
  have HC0_2 := Aside0.mk hc0_2
  clear hr0_2 hc0_2
  have HR2 := Aside0.mk hr2
  have HC2 := Aside0.mk hc2
  clear hr2 hc2
  have HB := Aside0.mk (Below.refl w.heap.size w)
  have H : ((woodcutlaw07_head.f).bind fun t154 => (if t154 = true then (if (l2.length : Int) > 20 then (some true) else (woodcutlaw07_TokenIs.l0 k a1 l2 false l2 (l2.length : Int) 0 a0_0 a0_1 l0_2 a0_3 a0_4 a0_5 a0_6 a0_7 a0_8 a0_9)) else (some false))) = some r := h
  clear h
  replace H := Option.bind_eq_some_iff.mp H
  obtain ⟨t154, A40, H⟩ := H
  replace H : (if t154 = true then (if (l2.length : Int) > 20 then (some true) else (woodcutlaw07_TokenIs.l0 k a1 l2 false l2 (l2.length : Int) 0 a0_0 a0_1 l0_2 a0_3 a0_4 a0_5 a0_6 a0_7 a0_8 a0_9)) else (some false)) = some r := H
  have A4 := Aside0.mk A40
  clear A40
  by_cases c5 : t154 = true
  · subst c5
    have H1 : (if (l2.length : Int) > 20 then (some true) else (woodcutlaw07_TokenIs.l0 k a1 l2 false l2 (l2.length : Int) 0 a0_0 a0_1 l0_2 a0_3 a0_4 a0_5 a0_6 a0_7 a0_8 a0_9)) = some r := by rw [if_pos rfl] at H; exact H
    clear H
    have H := H1
    clear H1
    by_cases c6 : (l2.length : Int) > 20
    · rw [if_pos c6] at H
      have c6b0 : decide (20 < (l2.length : Int)) = true := decide_eq_true c6
      have c6b1 : decide (20 < l2.length) = true := decide_eq_true (by omega)
      clear c6
      obtain rfl := Option.some.inj H
      go_enter Try.func4, Try.ntmps4
      go_wp2_with (first | ((with_reducible refine gate_dst (N := 3) rfl ?_); refine box_event ?hg (N := 3) ?hd (cs := #[.int .i64 a0_0, .string a0_1, .slice A0_2 l0_2.length c0_2, .bool a0_3, .string a0_4, .string a0_5, .string a0_6, .bool a0_7, .bool a0_8, .bool a0_9]) (t := 24) ?hr ?_; (case hd => rfl); (case hg => rfl); (case hr => first | (go_simp; done) | (go_simp; rfl)); intro gb153 hg w7 hbox hb; have n0_ := Aside0.mk (below_step (by repeat (first | (with_reducible first | exact HB.out | apply below_alloc | apply pw_below_drewN | apply below_drew1) | exact HB.out)) hb); have n1_ := Aside0.mk (hbox); have n2_ := Aside0.mk ((by rw [hg]; exact (below_size (by repeat (first | (with_reducible first | exact HB.out | apply below_alloc | apply pw_below_drewN | apply below_drew1) | exact HB.out))) : w.heap.size ≤ gb153)); have n3_ := Aside0.mk ((by rw [hg]; exact (below_size (by repeat (first | (with_reducible first | exact HB.out | apply below_alloc | apply pw_below_drewN | apply below_drew1) | exact HB.out))) : w.heap.size ≤ gb153)); clear HB; have HB := n0_; have BK153 := n1_; have GW153 := n2_; have GE153 := n3_; clear n0_ n1_ n2_ n3_; clear hb hbox hg) | ((with_reducible refine gate_callee (f := 14) rfl ?_); refine goesL_ (some 10) rfl rfl Try.func14 (by kernel_rfl) rfl #[] rfl (by (try simp only [List.map_toArray, List.map_cons, List.map_nil]); first | done | rfl | (simp only [List.length_drop, List.length_take]; rfl)) ?_; (with_reducible refine (woodcutlaw07_head.calls  true _ A4.out).mono ?_); rintro e w8 ⟨rfl, hb⟩; refine ⟨_, rfl, ?_⟩; have n0_ := Aside0.mk (blk_below (g := gb153) (o := .cells #[.int .i64 a0_0, .string a0_1, .slice A0_2 l0_2.length c0_2, .bool a0_3, .string a0_4, .string a0_5, .string a0_6, .bool a0_7, .bool a0_8, .bool a0_9] 24 (0, 0)) (by (with_reducible repeat (first | refine blk_drewN ?_ _ | refine blk_drew ?_ | refine blk_alloc ?_ _)); exact BK153.out) hb); have n1_ := Aside0.mk (below_step (by repeat (first | (with_reducible first | exact HB.out | apply below_alloc | apply pw_below_drewN | apply below_drew1 | refine below_set ?_ GE153.out) | exact HB.out)) hb); clear BK153; clear HB; have BK153 := n0_; have HB := n1_; clear n0_ n1_; (try clear hb); (try clear hb2); (try clear hk); (try clear hi)))
      go_ret
      exact ⟨by first | rfl | (simp [errW_none, errW_some] <;> rfl) | (simp [*, errW_none, errW_some] <;> rfl), by repeat (first | (with_reducible first | exact HB.out | apply below_alloc | apply pw_below_drewN | apply below_drew1 | refine below_set ?_ GE153.out) | exact HB.out)⟩
    · rw [if_neg c6] at H
      have c6b0 : decide (20 < (l2.length : Int)) = false := decide_eq_false c6
      have c6b1 : decide (20 < l2.length) = false := decide_eq_false (by omega)
      clear c6
      have H' := Aside0.mk H
      clear H
      go_enter Try.func4, Try.ntmps4
      go_wp2_with (first | ((with_reducible refine gate_dst (N := 3) rfl ?_); refine box_event ?hg (N := 3) ?hd (cs := #[.int .i64 a0_0, .string a0_1, .slice A0_2 l0_2.length c0_2, .bool a0_3, .string a0_4, .string a0_5, .string a0_6, .bool a0_7, .bool a0_8, .bool a0_9]) (t := 24) ?hr ?_; (case hd => rfl); (case hg => rfl); (case hr => first | (go_simp; done) | (go_simp; rfl)); intro gb153 hg w9 hbox hb; have n0_ := Aside0.mk (below_step (by repeat (first | (with_reducible first | exact HB.out | apply below_alloc | apply pw_below_drewN | apply below_drew1) | exact HB.out)) hb); have n1_ := Aside0.mk (hbox); have n2_ := Aside0.mk ((by rw [hg]; exact (below_size (by repeat (first | (with_reducible first | exact HB.out | apply below_alloc | apply pw_below_drewN | apply below_drew1) | exact HB.out))) : w.heap.size ≤ gb153)); have n3_ := Aside0.mk ((by rw [hg]; exact (below_size (by repeat (first | (with_reducible first | exact HB.out | apply below_alloc | apply pw_below_drewN | apply below_drew1) | exact HB.out))) : w.heap.size ≤ gb153)); clear HB; have HB := n0_; have BK153 := n1_; have GW153 := n2_; have GE153 := n3_; clear n0_ n1_ n2_ n3_; clear hb hbox hg) | ((with_reducible refine gate_callee (f := 14) rfl ?_); refine goesL_ (some 10) rfl rfl Try.func14 (by kernel_rfl) rfl #[] rfl (by (try simp only [List.map_toArray, List.map_cons, List.map_nil]); first | done | rfl | (simp only [List.length_drop, List.length_take]; rfl)) ?_; (with_reducible refine (woodcutlaw07_head.calls  true _ A4.out).mono ?_); rintro e w10 ⟨rfl, hb⟩; refine ⟨_, rfl, ?_⟩; have n0_ := Aside0.mk (blk_below (g := gb153) (o := .cells #[.int .i64 a0_0, .string a0_1, .slice A0_2 l0_2.length c0_2, .bool a0_3, .string a0_4, .string a0_5, .string a0_6, .bool a0_7, .bool a0_8, .bool a0_9] 24 (0, 0)) (by (with_reducible repeat (first | refine blk_drewN ?_ _ | refine blk_drew ?_ | refine blk_alloc ?_ _)); exact BK153.out) hb); have n1_ := Aside0.mk (below_step (by repeat (first | (with_reducible first | exact HB.out | apply below_alloc | apply pw_below_drewN | apply below_drew1 | refine below_set ?_ GE153.out) | exact HB.out)) hb); clear BK153; clear HB; have BK153 := n0_; have HB := n1_; clear n0_ n1_; (try clear hb); (try clear hb2); (try clear hk); (try clear hi)))
      go_loopg [7, 17] k (fun kq v7 v17 w' => ∃ (x7_1 : Bool) (x17_1 : Int), v7 = .bool x7_1 ∧ v17 = .int .i64 x17_1 ∧ Aside0 (woodcutlaw07_TokenIs.l0 kq a1 l2 x7_1 l2 (l2.length : Int) x17_1 a0_0 a0_1 l0_2 a0_3 a0_4 a0_5 a0_6 a0_7 a0_8 a0_9 = some r) ∧ Aside0 (kq ≤ k) ∧ Aside0 (w'.heap[gb153]? = some (.cells #[.int .i64 a0_0, .string a0_1, (.slice A0_2 l0_2.length c0_2), .bool a0_3, .string a0_4, .string a0_5, .string a0_6, .bool a0_7, .bool a0_8, .bool a0_9] 24 (0, 0))) ∧ Aside0 (Below w.heap.size w w'))
      case atStart => exact ⟨(false), (0), (by first | rfl | (simp; done) | (simp [*]; done)), (by first | rfl | (simp; done) | (simp [*]; done)), H', ⟨Nat.le_refl _⟩, ⟨by (with_reducible repeat (first | refine blk_drewN ?_ _ | refine blk_drew ?_ | refine blk_alloc ?_ _)); exact BK153.out⟩, ⟨by repeat (first | (with_reducible first | exact HB.out | apply below_alloc | apply pw_below_drewN | apply below_drew1 | refine below_set ?_ GE153.out) | exact HB.out)⟩⟩
      case round =>
        clear H'
        try clear c1
        try clear c2
        try clear p2
        try clear c4
        try clear c5
        try clear c6
        try clear c6b0
        try clear c6b1
        obtain ⟨x7_1, x17_1, rfl, rfl, HA, HK1, BK153, HB⟩ := hrel
        cases gk with
        | zero => exact absurd HA.out (by simp [woodcutlaw07_TokenIs.l0])
        | succ k1 =>
          have H := HA.out
          clear HA
          simp only [woodcutlaw07_TokenIs.l0] at H
          by_cases c11 : x17_1 < (l2.length : Int)
          · rw [if_pos c11] at H
            have c11b0 : decide (x17_1 < (l2.length : Int)) = true := decide_eq_true c11
            clear c11
            by_cases c12 : 0 ≤ x17_1
            · rw [if_pos c12] at H
              have c12b0 : decide (0 ≤ x17_1) = true := decide_eq_true c12
              clear c12
              by_cases c13 : x17_1 < (l2.length : Int)
              · rw [if_pos c13] at H
                have c13b0 : decide (x17_1 < (l2.length : Int)) = true := decide_eq_true c13
                clear c13
                by_cases c14 : x7_1 = true
                · subst c14
                  have H1 : (woodcutlaw07_TokenIs.l0 k1 a1 l2 true l2 (l2.length : Int) (wrap64 (x17_1 + 1)) a0_0 a0_1 l0_2 a0_3 a0_4 a0_5 a0_6 a0_7 a0_8 a0_9) = some r := by rw [if_pos rfl] at H; exact H
                  clear H
                  have H := H1
                  clear H1
                  have H' := Aside0.mk H
                  clear H
                  have p155 : 0 ≤ (x17_1 : Int) := of_decide_eq_true (by first | (with_reducible assumption) | assumption)
                  have q155 : x17_1 < (l2.length : Int) := of_decide_eq_true (by first | (with_reducible assumption) | assumption)
                  obtain ⟨ad155, e155, hx155_0⟩ := Kd.at_string HR2.out x17_1 p155 q155
                  cases e155
                  replace hx155_0 := (HB.out.cell (World.block_lt_of_cell? w _ hx155_0)).trans hx155_0
                  replace p155 := eq_true p155
                  replace q155 := eq_true q155
                  go_wp2
                  go_roundg k1
                  case measure => have := HK1.out; omega
                  case rel => exact ⟨(true), (wrap64 (x17_1 + 1)), (by first | rfl | (simp; done) | (simp [*]; done)), (by first | rfl | (simp; done) | (simp [*]; done)), H', ⟨by have := HK1.out; omega⟩, ⟨by (with_reducible repeat (first | refine blk_drewN ?_ _ | refine blk_drew ?_ | refine blk_alloc ?_ _)); exact BK153.out⟩, ⟨by repeat (first | (with_reducible first | exact HB.out | apply below_alloc | apply pw_below_drewN | apply below_drew1 | refine below_set ?_ GE153.out) | exact HB.out)⟩⟩
                · replace c14 := Bool.eq_false_iff.mpr c14
                  subst c14
                  have H1 : (woodcutlaw07_TokenIs.l0 k1 a1 l2 ((rdOf ByteArray.empty l2 x17_1).toList == a0_1.toList) l2 (l2.length : Int) (wrap64 (x17_1 + 1)) a0_0 a0_1 l0_2 a0_3 a0_4 a0_5 a0_6 a0_7 a0_8 a0_9) = some r := by rw [if_neg (show ¬ (false = true) by decide)] at H; exact H
                  clear H
                  have H := H1
                  clear H1
                  have H' := Aside0.mk H
                  clear H
                  have p155 : 0 ≤ (x17_1 : Int) := of_decide_eq_true (by first | (with_reducible assumption) | assumption)
                  have q155 : x17_1 < (l2.length : Int) := of_decide_eq_true (by first | (with_reducible assumption) | assumption)
                  obtain ⟨ad155, e155, hx155_0⟩ := Kd.at_string HR2.out x17_1 p155 q155
                  cases e155
                  replace hx155_0 := (HB.out.cell (World.block_lt_of_cell? w _ hx155_0)).trans hx155_0
                  replace p155 := eq_true p155
                  replace q155 := eq_true q155
                  have hcz15_0 : wr.cell? ⟨gb153, 0, none⟩ = some (.int .i64 a0_0) := (blk_cell BK153.out 0).trans rfl
                  have hcz15_1 : wr.cell? ⟨gb153, 1, none⟩ = some (.string a0_1) := (blk_cell BK153.out 1).trans rfl
                  have hcz15_2 : wr.cell? ⟨gb153, 2, none⟩ = some (.slice A0_2 l0_2.length c0_2) := (blk_cell BK153.out 2).trans rfl
                  have hcz15_3 : wr.cell? ⟨gb153, 3, none⟩ = some (.bool a0_3) := (blk_cell BK153.out 3).trans rfl
                  have hcz15_4 : wr.cell? ⟨gb153, 4, none⟩ = some (.string a0_4) := (blk_cell BK153.out 4).trans rfl
                  have hcz15_5 : wr.cell? ⟨gb153, 5, none⟩ = some (.string a0_5) := (blk_cell BK153.out 5).trans rfl
                  have hcz15_6 : wr.cell? ⟨gb153, 6, none⟩ = some (.string a0_6) := (blk_cell BK153.out 6).trans rfl
                  have hcz15_7 : wr.cell? ⟨gb153, 7, none⟩ = some (.bool a0_7) := (blk_cell BK153.out 7).trans rfl
                  have hcz15_8 : wr.cell? ⟨gb153, 8, none⟩ = some (.bool a0_8) := (blk_cell BK153.out 8).trans rfl
                  have hcz15_9 : wr.cell? ⟨gb153, 9, none⟩ = some (.bool a0_9) := (blk_cell BK153.out 9).trans rfl
                  have hfz15_0 := blk_frozen BK153.out 0
                  have hfz15_1 := blk_frozen BK153.out 1
                  have hfz15_2 := blk_frozen BK153.out 2
                  have hfz15_3 := blk_frozen BK153.out 3
                  have hfz15_4 := blk_frozen BK153.out 4
                  have hfz15_5 := blk_frozen BK153.out 5
                  have hfz15_6 := blk_frozen BK153.out 6
                  have hfz15_7 := blk_frozen BK153.out 7
                  have hfz15_8 := blk_frozen BK153.out 8
                  have hfz15_9 := blk_frozen BK153.out 9
                  go_wp2
                  go_roundg k1
                  case measure => have := HK1.out; omega
                  case rel => exact ⟨(((rdOf ByteArray.empty l2 x17_1).toList == a0_1.toList)), (wrap64 (x17_1 + 1)), (by first | rfl | (simp; done) | (simp [*]; done)), (by first | rfl | (simp; done) | (simp [*]; done)), H', ⟨by have := HK1.out; omega⟩, ⟨by (with_reducible repeat (first | refine blk_drewN ?_ _ | refine blk_drew ?_ | refine blk_alloc ?_ _)); exact BK153.out⟩, ⟨by repeat (first | (with_reducible first | exact HB.out | apply below_alloc | apply pw_below_drewN | apply below_drew1 | refine below_set ?_ GE153.out) | exact HB.out)⟩⟩
              · rw [if_neg c13] at H
                exact absurd H (by simp)
            · rw [if_neg c12] at H
              exact absurd H (by simp)
          · rw [if_neg c11] at H
            have c11b0 : decide (x17_1 < (l2.length : Int)) = false := decide_eq_false c11
            clear c11
            replace H := Option.bind_eq_some_iff.mp H
            obtain ⟨t156, A160, H⟩ := H
            replace H : (if x7_1 = true then (some (t156 == (a0_0 == a1))) else (some (t156 == false))) = some r := H
            have A16 := Aside0.mk A160
            clear A160
            by_cases c17 : x7_1 = true
            · subst c17
              have H1 : (some (t156 == (a0_0 == a1))) = some r := by rw [if_pos rfl] at H; exact H
              clear H
              have H := H1
              clear H1
              obtain rfl := Option.some.inj H
              have hcz18_0 : wr.cell? ⟨gb153, 0, none⟩ = some (.int .i64 a0_0) := (blk_cell BK153.out 0).trans rfl
              have hcz18_1 : wr.cell? ⟨gb153, 1, none⟩ = some (.string a0_1) := (blk_cell BK153.out 1).trans rfl
              have hcz18_2 : wr.cell? ⟨gb153, 2, none⟩ = some (.slice A0_2 l0_2.length c0_2) := (blk_cell BK153.out 2).trans rfl
              have hcz18_3 : wr.cell? ⟨gb153, 3, none⟩ = some (.bool a0_3) := (blk_cell BK153.out 3).trans rfl
              have hcz18_4 : wr.cell? ⟨gb153, 4, none⟩ = some (.string a0_4) := (blk_cell BK153.out 4).trans rfl
              have hcz18_5 : wr.cell? ⟨gb153, 5, none⟩ = some (.string a0_5) := (blk_cell BK153.out 5).trans rfl
              have hcz18_6 : wr.cell? ⟨gb153, 6, none⟩ = some (.string a0_6) := (blk_cell BK153.out 6).trans rfl
              have hcz18_7 : wr.cell? ⟨gb153, 7, none⟩ = some (.bool a0_7) := (blk_cell BK153.out 7).trans rfl
              have hcz18_8 : wr.cell? ⟨gb153, 8, none⟩ = some (.bool a0_8) := (blk_cell BK153.out 8).trans rfl
              have hcz18_9 : wr.cell? ⟨gb153, 9, none⟩ = some (.bool a0_9) := (blk_cell BK153.out 9).trans rfl
              have hfz18_0 := blk_frozen BK153.out 0
              have hfz18_1 := blk_frozen BK153.out 1
              have hfz18_2 := blk_frozen BK153.out 2
              have hfz18_3 := blk_frozen BK153.out 3
              have hfz18_4 := blk_frozen BK153.out 4
              have hfz18_5 := blk_frozen BK153.out 5
              have hfz18_6 := blk_frozen BK153.out 6
              have hfz18_7 := blk_frozen BK153.out 7
              have hfz18_8 := blk_frozen BK153.out 8
              have hfz18_9 := blk_frozen BK153.out 9
              go_wp2_with (first | ((with_reducible refine gate_callee (f := 16) rfl ?_); refine goesL_ (some 32) rfl rfl Try.func16 (by kernel_rfl) rfl #[.agg #[.int .i64 a0_0, .string a0_1, .slice A0_2 l0_2.length c0_2, .bool a0_3, .string a0_4, .string a0_5, .string a0_6, .bool a0_7, .bool a0_8, .bool a0_9], .int .i64 a1, .slice A2 l2.length c2] rfl (by (try simp only [List.map_toArray, List.map_cons, List.map_nil]); first | done | rfl | (simp only [List.length_drop, List.length_take]; rfl)) ?_; (with_reducible refine (token_Token_Is.calls k1 a0_0 a0_1 _ _ l0_2 a0_3 a0_4 a0_5 a0_6 a0_7 a0_8 a0_9 a1 _ _ l2 t156 _ ?side1 ?side2 ?side3 ?side4 A16.out).mono ?_); (case side1 => repeat (first | exact (Kd.C_below HR0_2.out HB.out) | (with_reducible refine Kd.C_alloc ?_ _) | (with_reducible refine Kd.C_drewN ?_ _) | (with_reducible refine Kd.C_drew ?_))); (case side2 => exact HC0_2.out); (case side3 => repeat (first | exact (Kd.C_below HR2.out HB.out) | (with_reducible refine Kd.C_alloc ?_ _) | (with_reducible refine Kd.C_drewN ?_ _) | (with_reducible refine Kd.C_drew ?_))); (case side4 => exact HC2.out); rintro e w19 ⟨rfl, hb⟩; refine ⟨_, rfl, ?_⟩; have n0_ := Aside0.mk (blk_below (g := gb153) (o := .cells #[.int .i64 a0_0, .string a0_1, .slice A0_2 l0_2.length c0_2, .bool a0_3, .string a0_4, .string a0_5, .string a0_6, .bool a0_7, .bool a0_8, .bool a0_9] 24 (0, 0)) (by (with_reducible repeat (first | refine blk_drewN ?_ _ | refine blk_drew ?_ | refine blk_alloc ?_ _)); exact BK153.out) hb); have n1_ := Aside0.mk (below_step (by repeat (first | (with_reducible first | exact HB.out | apply below_alloc | apply pw_below_drewN | apply below_drew1 | refine below_set ?_ GE153.out) | exact HB.out)) hb); clear BK153; clear HB; have BK153 := n0_; have HB := n1_; clear n0_ n1_; (try clear hb); (try clear hb2); (try clear hk); (try clear hi); have hcz20_0 : w19.cell? ⟨gb153, 0, none⟩ = some (.int .i64 a0_0) := (blk_cell BK153.out 0).trans rfl; have hcz20_1 : w19.cell? ⟨gb153, 1, none⟩ = some (.string a0_1) := (blk_cell BK153.out 1).trans rfl; have hcz20_2 : w19.cell? ⟨gb153, 2, none⟩ = some (.slice A0_2 l0_2.length c0_2) := (blk_cell BK153.out 2).trans rfl; have hcz20_3 : w19.cell? ⟨gb153, 3, none⟩ = some (.bool a0_3) := (blk_cell BK153.out 3).trans rfl; have hcz20_4 : w19.cell? ⟨gb153, 4, none⟩ = some (.string a0_4) := (blk_cell BK153.out 4).trans rfl; have hcz20_5 : w19.cell? ⟨gb153, 5, none⟩ = some (.string a0_5) := (blk_cell BK153.out 5).trans rfl; have hcz20_6 : w19.cell? ⟨gb153, 6, none⟩ = some (.string a0_6) := (blk_cell BK153.out 6).trans rfl; have hcz20_7 : w19.cell? ⟨gb153, 7, none⟩ = some (.bool a0_7) := (blk_cell BK153.out 7).trans rfl; have hcz20_8 : w19.cell? ⟨gb153, 8, none⟩ = some (.bool a0_8) := (blk_cell BK153.out 8).trans rfl; have hcz20_9 : w19.cell? ⟨gb153, 9, none⟩ = some (.bool a0_9) := (blk_cell BK153.out 9).trans rfl; have hfz20_0 := blk_frozen BK153.out 0; have hfz20_1 := blk_frozen BK153.out 1; have hfz20_2 := blk_frozen BK153.out 2; have hfz20_3 := blk_frozen BK153.out 3; have hfz20_4 := blk_frozen BK153.out 4; have hfz20_5 := blk_frozen BK153.out 5; have hfz20_6 := blk_frozen BK153.out 6; have hfz20_7 := blk_frozen BK153.out 7; have hfz20_8 := blk_frozen BK153.out 8; have hfz20_9 := blk_frozen BK153.out 9))
              go_ret
              exact ⟨by first | rfl | (simp [errW_none, errW_some] <;> rfl) | (simp [*, errW_none, errW_some] <;> rfl), by repeat (first | (with_reducible first | exact HB.out | apply below_alloc | apply pw_below_drewN | apply below_drew1 | refine below_set ?_ GE153.out) | exact HB.out)⟩
            · replace c17 := Bool.eq_false_iff.mpr c17
              subst c17
              have H1 : (some (t156 == false)) = some r := by rw [if_neg (show ¬ (false = true) by decide)] at H; exact H
              clear H
              have H := H1
              clear H1
              obtain rfl := Option.some.inj H
              have hcz21_0 : wr.cell? ⟨gb153, 0, none⟩ = some (.int .i64 a0_0) := (blk_cell BK153.out 0).trans rfl
              have hcz21_1 : wr.cell? ⟨gb153, 1, none⟩ = some (.string a0_1) := (blk_cell BK153.out 1).trans rfl
              have hcz21_2 : wr.cell? ⟨gb153, 2, none⟩ = some (.slice A0_2 l0_2.length c0_2) := (blk_cell BK153.out 2).trans rfl
              have hcz21_3 : wr.cell? ⟨gb153, 3, none⟩ = some (.bool a0_3) := (blk_cell BK153.out 3).trans rfl
              have hcz21_4 : wr.cell? ⟨gb153, 4, none⟩ = some (.string a0_4) := (blk_cell BK153.out 4).trans rfl
              have hcz21_5 : wr.cell? ⟨gb153, 5, none⟩ = some (.string a0_5) := (blk_cell BK153.out 5).trans rfl
              have hcz21_6 : wr.cell? ⟨gb153, 6, none⟩ = some (.string a0_6) := (blk_cell BK153.out 6).trans rfl
              have hcz21_7 : wr.cell? ⟨gb153, 7, none⟩ = some (.bool a0_7) := (blk_cell BK153.out 7).trans rfl
              have hcz21_8 : wr.cell? ⟨gb153, 8, none⟩ = some (.bool a0_8) := (blk_cell BK153.out 8).trans rfl
              have hcz21_9 : wr.cell? ⟨gb153, 9, none⟩ = some (.bool a0_9) := (blk_cell BK153.out 9).trans rfl
              have hfz21_0 := blk_frozen BK153.out 0
              have hfz21_1 := blk_frozen BK153.out 1
              have hfz21_2 := blk_frozen BK153.out 2
              have hfz21_3 := blk_frozen BK153.out 3
              have hfz21_4 := blk_frozen BK153.out 4
              have hfz21_5 := blk_frozen BK153.out 5
              have hfz21_6 := blk_frozen BK153.out 6
              have hfz21_7 := blk_frozen BK153.out 7
              have hfz21_8 := blk_frozen BK153.out 8
              have hfz21_9 := blk_frozen BK153.out 9
              go_wp2_with (first | ((with_reducible refine gate_callee (f := 16) rfl ?_); refine goesL_ (some 32) rfl rfl Try.func16 (by kernel_rfl) rfl #[.agg #[.int .i64 a0_0, .string a0_1, .slice A0_2 l0_2.length c0_2, .bool a0_3, .string a0_4, .string a0_5, .string a0_6, .bool a0_7, .bool a0_8, .bool a0_9], .int .i64 a1, .slice A2 l2.length c2] rfl (by (try simp only [List.map_toArray, List.map_cons, List.map_nil]); first | done | rfl | (simp only [List.length_drop, List.length_take]; rfl)) ?_; (with_reducible refine (token_Token_Is.calls k1 a0_0 a0_1 _ _ l0_2 a0_3 a0_4 a0_5 a0_6 a0_7 a0_8 a0_9 a1 _ _ l2 t156 _ ?side1 ?side2 ?side3 ?side4 A16.out).mono ?_); (case side1 => repeat (first | exact (Kd.C_below HR0_2.out HB.out) | (with_reducible refine Kd.C_alloc ?_ _) | (with_reducible refine Kd.C_drewN ?_ _) | (with_reducible refine Kd.C_drew ?_))); (case side2 => exact HC0_2.out); (case side3 => repeat (first | exact (Kd.C_below HR2.out HB.out) | (with_reducible refine Kd.C_alloc ?_ _) | (with_reducible refine Kd.C_drewN ?_ _) | (with_reducible refine Kd.C_drew ?_))); (case side4 => exact HC2.out); rintro e w22 ⟨rfl, hb⟩; refine ⟨_, rfl, ?_⟩; have n0_ := Aside0.mk (blk_below (g := gb153) (o := .cells #[.int .i64 a0_0, .string a0_1, .slice A0_2 l0_2.length c0_2, .bool a0_3, .string a0_4, .string a0_5, .string a0_6, .bool a0_7, .bool a0_8, .bool a0_9] 24 (0, 0)) (by (with_reducible repeat (first | refine blk_drewN ?_ _ | refine blk_drew ?_ | refine blk_alloc ?_ _)); exact BK153.out) hb); have n1_ := Aside0.mk (below_step (by repeat (first | (with_reducible first | exact HB.out | apply below_alloc | apply pw_below_drewN | apply below_drew1 | refine below_set ?_ GE153.out) | exact HB.out)) hb); clear BK153; clear HB; have BK153 := n0_; have HB := n1_; clear n0_ n1_; (try clear hb); (try clear hb2); (try clear hk); (try clear hi)))
              go_ret
              exact ⟨by first | rfl | (simp [errW_none, errW_some] <;> rfl) | (simp [*, errW_none, errW_some] <;> rfl), by repeat (first | (with_reducible first | exact HB.out | apply below_alloc | apply pw_below_drewN | apply below_drew1 | refine below_set ?_ GE153.out) | exact HB.out)⟩
  · replace c5 := Bool.eq_false_iff.mpr c5
    subst c5
    have H1 : (some false) = some r := by rw [if_neg (show ¬ (false = true) by decide)] at H; exact H
    clear H
    have H := H1
    clear H1
    obtain rfl := Option.some.inj H
    go_enter Try.func4, Try.ntmps4
    go_wp2_with (first | ((with_reducible refine gate_dst (N := 3) rfl ?_); refine box_event ?hg (N := 3) ?hd (cs := #[.int .i64 a0_0, .string a0_1, .slice A0_2 l0_2.length c0_2, .bool a0_3, .string a0_4, .string a0_5, .string a0_6, .bool a0_7, .bool a0_8, .bool a0_9]) (t := 24) ?hr ?_; (case hd => rfl); (case hg => rfl); (case hr => first | (go_simp; done) | (go_simp; rfl)); intro gb153 hg w23 hbox hb; have n0_ := Aside0.mk (below_step (by repeat (first | (with_reducible first | exact HB.out | apply below_alloc | apply pw_below_drewN | apply below_drew1) | exact HB.out)) hb); have n1_ := Aside0.mk (hbox); have n2_ := Aside0.mk ((by rw [hg]; exact (below_size (by repeat (first | (with_reducible first | exact HB.out | apply below_alloc | apply pw_below_drewN | apply below_drew1) | exact HB.out))) : w.heap.size ≤ gb153)); have n3_ := Aside0.mk ((by rw [hg]; exact (below_size (by repeat (first | (with_reducible first | exact HB.out | apply below_alloc | apply pw_below_drewN | apply below_drew1) | exact HB.out))) : w.heap.size ≤ gb153)); clear HB; have HB := n0_; have BK153 := n1_; have GW153 := n2_; have GE153 := n3_; clear n0_ n1_ n2_ n3_; clear hb hbox hg) | ((with_reducible refine gate_callee (f := 14) rfl ?_); refine goesL_ (some 10) rfl rfl Try.func14 (by kernel_rfl) rfl #[] rfl (by (try simp only [List.map_toArray, List.map_cons, List.map_nil]); first | done | rfl | (simp only [List.length_drop, List.length_take]; rfl)) ?_; (with_reducible refine (woodcutlaw07_head.calls  false _ A4.out).mono ?_); rintro e w24 ⟨rfl, hb⟩; refine ⟨_, rfl, ?_⟩; have n0_ := Aside0.mk (blk_below (g := gb153) (o := .cells #[.int .i64 a0_0, .string a0_1, .slice A0_2 l0_2.length c0_2, .bool a0_3, .string a0_4, .string a0_5, .string a0_6, .bool a0_7, .bool a0_8, .bool a0_9] 24 (0, 0)) (by (with_reducible repeat (first | refine blk_drewN ?_ _ | refine blk_drew ?_ | refine blk_alloc ?_ _)); exact BK153.out) hb); have n1_ := Aside0.mk (below_step (by repeat (first | (with_reducible first | exact HB.out | apply below_alloc | apply pw_below_drewN | apply below_drew1 | refine below_set ?_ GE153.out) | exact HB.out)) hb); clear BK153; clear HB; have BK153 := n0_; have HB := n1_; clear n0_ n1_; (try clear hb); (try clear hb2); (try clear hk); (try clear hi)))
    go_ret
    exact ⟨by first | rfl | (simp [errW_none, errW_some] <;> rfl) | (simp [*, errW_none, errW_some] <;> rfl), by repeat (first | (with_reducible first | exact HB.out | apply below_alloc | apply pw_below_drewN | apply below_drew1 | refine below_set ?_ GE153.out) | exact HB.out)⟩

end Go.Proofs.Ytccadgnbomgpcaa.Tk
