-- Written by a program of this session (wip/inj.py) over the kit's own print; Lean checks it.
import Derived.Test.YtccadgnbomgpcaaTx0
import Derived.Test.YtccadgnbomgpcaaTx3
import Derived.Test.YtccadgnbomgpcaaTx13
import Derived.Test.YtccadgnbomgpcaaTx14
import Derived.Test.YtccadgnbomgpcaaTx15
import Derived.Test.YtccadgnbomgpcaaTx16
import Derived.Test.YtccadgnbomgpcaaTx17
namespace Go.Proofs.Ytccadgnbomgpcaa.Tx
open Go.RowKit Go.Proofs.YtccadgnbomgpcaaW.PrintWords Go.Proofs.YtccadgnbomgpcaaW.PrintLast Go.Proofs.YtccadgnbomgpcaaW.PrintMore
attribute [local go_sem] max2_int min2_int max_two min_two max_three min_three max_four min_four   -- for this text's walks alone
set_option linter.unusedVariables false
set_option linter.unusedSimpArgs false

/-! ### woodcutlaw01_TextKinds: function 12 -/
mutual
def woodcutlaw01_TextKinds.j0 : Nat → Int → Bool → Option (Bool)
  | 0, _, _ => none
  | k + 1, x0, x3 => if x0 ≥ 65 then (woodcutlaw01_TextKinds.j1 k x0 x3 (decide (x0 ≤ 90))) else (woodcutlaw01_TextKinds.j1 k x0 x3 false)
def woodcutlaw01_TextKinds.j1 : Nat → Int → Bool → Bool → Option (Bool)
  | 0, _, _, _ => none
  | k + 1, x0, x3, x4 => if x0 ≥ 97 then (woodcutlaw01_TextKinds.j2 k x0 x3 x4 (decide (x0 ≤ 122))) else (woodcutlaw01_TextKinds.j2 k x0 x3 x4 false)
def woodcutlaw01_TextKinds.j2 : Nat → Int → Bool → Bool → Bool → Option (Bool)
  | 0, _, _, _, _ => none
  | k + 1, x0, x3, x4, x5 => if x0 ≥ 48 then (woodcutlaw01_TextKinds.j3 k x0 x3 x4 x5 (decide (x0 ≤ 57))) else (woodcutlaw01_TextKinds.j3 k x0 x3 x4 x5 false)
def woodcutlaw01_TextKinds.j3 : Nat → Int → Bool → Bool → Bool → Bool → Option (Bool)
  | 0, _, _, _, _, _ => none
  | k + 1, x0, x3, x4, x5, x6 => (some (([48, 49, 50, 51, 52, 53, 54, 55, 56, 57, 97, 98, 99, 100, 101, 102] : List Int) : List Int)).bind fun y270 => (woodcutlaw01_TextKinds.l0 k x0 x3 x4 x5 x6 (-1) y270 (y270.length : Int) 0)
def woodcutlaw01_TextKinds.l0 : Nat → Int → Bool → Bool → Bool → Bool → Int → List Int → Int → Int → Option (Bool)
  | 0, _, _, _, _, _, _, _, _, _ => none
  | k + 1, x0, x3, x4, x5, x6, x7, x49, x50, x51 => if x51 < x50 then (if 0 ≤ x51 then (if x51 < (x49.length : Int) then (if x0 = (rd x49 x51) then (woodcutlaw01_TextKinds.l0 k x0 x3 x4 x5 x6 x51 x49 x50 (wrap64 (x51 + 1))) else (if x0 ≥ 65 then (if x0 ≤ 70 then (if (wrap32 (x0 + 32)) = (rd x49 x51) then (woodcutlaw01_TextKinds.l0 k x0 x3 x4 x5 x6 x51 x49 x50 (wrap64 (x51 + 1))) else (woodcutlaw01_TextKinds.l0 k x0 x3 x4 x5 x6 x7 x49 x50 (wrap64 (x51 + 1)))) else (woodcutlaw01_TextKinds.l0 k x0 x3 x4 x5 x6 x7 x49 x50 (wrap64 (x51 + 1)))) else (woodcutlaw01_TextKinds.l0 k x0 x3 x4 x5 x6 x7 x49 x50 (wrap64 (x51 + 1))))) else (none)) else (none)) else (if x4 = true then (woodcutlaw01_TextKinds.j5 k x0 x3 x4 x5 x6 x7 (wrap32 (x0 + 32))) else (woodcutlaw01_TextKinds.j5 k x0 x3 x4 x5 x6 x7 x0))
def woodcutlaw01_TextKinds.j5 : Nat → Int → Bool → Bool → Bool → Bool → Int → Int → Option (Bool)
  | 0, _, _, _, _, _, _, _ => none
  | k + 1, x0, x3, x4, x5, x6, x7, x10 => (text_Blank.f x0).bind fun t274 => (if (t274 == x3) = true then ((text_Letter.f x0).bind fun t275 => (if x4 = true then (if (t275 == true) = true then ((text_Digit.f x0).bind fun t276 => (if (t276 == x6) = true then ((text_Hex.f k x0).bind fun t277 => (if t277 = x7 then ((text_Small.f x0).bind fun t278 => (some (t278 == x10))) else (some false))) else (some false))) else (some false)) else (if (t275 == x5) = true then ((text_Digit.f x0).bind fun t279 => (if (t279 == x6) = true then ((text_Hex.f k x0).bind fun t280 => (if t280 = x7 then ((text_Small.f x0).bind fun t281 => (some (t281 == x10))) else (some false))) else (some false))) else (some false)))) else (some false))
end
def woodcutlaw01_TextKinds.f (k : Nat) (a0 : Int) : Option (Bool) := (woodcutlaw01_head.f).bind fun t269 => (if t269 = true then (if a0 = 9 then (woodcutlaw01_TextKinds.j0 k a0 true) else (if a0 = 10 then (woodcutlaw01_TextKinds.j0 k a0 true) else (if a0 = 12 then (woodcutlaw01_TextKinds.j0 k a0 true) else (if a0 = 13 then (woodcutlaw01_TextKinds.j0 k a0 true) else (woodcutlaw01_TextKinds.j0 k a0 (a0 == 32)))))) else (some false))
theorem woodcutlaw01_TextKinds.mono_l : ∀ k, (∀ y0 y1, LeO (woodcutlaw01_TextKinds.j0 k y0 y1) (woodcutlaw01_TextKinds.j0 (k + 1) y0 y1)) ∧ (∀ y0 y1 y2, LeO (woodcutlaw01_TextKinds.j1 k y0 y1 y2) (woodcutlaw01_TextKinds.j1 (k + 1) y0 y1 y2)) ∧ (∀ y0 y1 y2 y3, LeO (woodcutlaw01_TextKinds.j2 k y0 y1 y2 y3) (woodcutlaw01_TextKinds.j2 (k + 1) y0 y1 y2 y3)) ∧ (∀ y0 y1 y2 y3 y4, LeO (woodcutlaw01_TextKinds.j3 k y0 y1 y2 y3 y4) (woodcutlaw01_TextKinds.j3 (k + 1) y0 y1 y2 y3 y4)) ∧ (∀ y0 y1 y2 y3 y4 y5 y6 y7 y8, LeO (woodcutlaw01_TextKinds.l0 k y0 y1 y2 y3 y4 y5 y6 y7 y8) (woodcutlaw01_TextKinds.l0 (k + 1) y0 y1 y2 y3 y4 y5 y6 y7 y8)) ∧ (∀ y0 y1 y2 y3 y4 y5 y6, LeO (woodcutlaw01_TextKinds.j5 k y0 y1 y2 y3 y4 y5 y6) (woodcutlaw01_TextKinds.j5 (k + 1) y0 y1 y2 y3 y4 y5 y6))
  | 0 => ⟨fun _ _ r h => by simp [woodcutlaw01_TextKinds.j0] at h, fun _ _ _ r h => by simp [woodcutlaw01_TextKinds.j1] at h, fun _ _ _ _ r h => by simp [woodcutlaw01_TextKinds.j2] at h, fun _ _ _ _ _ r h => by simp [woodcutlaw01_TextKinds.j3] at h, fun _ _ _ _ _ _ _ _ _ r h => by simp [woodcutlaw01_TextKinds.l0] at h, fun _ _ _ _ _ _ _ r h => by simp [woodcutlaw01_TextKinds.j5] at h⟩
  | k + 1 => by
    obtain ⟨ih0, ih1, ih2, ih3, ih4, ih5⟩ := woodcutlaw01_TextKinds.mono_l k
    refine ⟨?_, ?_, ?_, ?_, ?_, ?_⟩
    · intro y0 y1
      unfold woodcutlaw01_TextKinds.j0
      repeat' first
      | (with_reducible exact ih0 _ _)
      | (with_reducible exact ih1 _ _ _)
      | (with_reducible exact ih2 _ _ _ _)
      | (with_reducible exact ih3 _ _ _ _ _)
      | (with_reducible exact ih4 _ _ _ _ _ _ _ _ _)
      | (with_reducible exact ih5 _ _ _ _ _ _ _)
      | (with_reducible exact text_Hex.mono _ _)
      | (with_reducible exact LeO.refl _)
      | (with_reducible exact LeO.none _)
      | (with_reducible refine LeO.ite ?_ ?_)
      | (with_reducible refine LeO.bind ?_ (fun _ => ?_))
      | exact ih0 _ _
      | exact ih1 _ _ _
      | exact ih2 _ _ _ _
      | exact ih3 _ _ _ _ _
      | exact ih4 _ _ _ _ _ _ _ _ _
      | exact ih5 _ _ _ _ _ _ _
      | exact text_Hex.mono _ _
      | exact LeO.none _
      | refine LeO.ite ?_ ?_
      | refine LeO.bind ?_ (fun _ => ?_)
    · intro y0 y1 y2
      unfold woodcutlaw01_TextKinds.j1
      repeat' first
      | (with_reducible exact ih0 _ _)
      | (with_reducible exact ih1 _ _ _)
      | (with_reducible exact ih2 _ _ _ _)
      | (with_reducible exact ih3 _ _ _ _ _)
      | (with_reducible exact ih4 _ _ _ _ _ _ _ _ _)
      | (with_reducible exact ih5 _ _ _ _ _ _ _)
      | (with_reducible exact text_Hex.mono _ _)
      | (with_reducible exact LeO.refl _)
      | (with_reducible exact LeO.none _)
      | (with_reducible refine LeO.ite ?_ ?_)
      | (with_reducible refine LeO.bind ?_ (fun _ => ?_))
      | exact ih0 _ _
      | exact ih1 _ _ _
      | exact ih2 _ _ _ _
      | exact ih3 _ _ _ _ _
      | exact ih4 _ _ _ _ _ _ _ _ _
      | exact ih5 _ _ _ _ _ _ _
      | exact text_Hex.mono _ _
      | exact LeO.none _
      | refine LeO.ite ?_ ?_
      | refine LeO.bind ?_ (fun _ => ?_)
    · intro y0 y1 y2 y3
      unfold woodcutlaw01_TextKinds.j2
      repeat' first
      | (with_reducible exact ih0 _ _)
      | (with_reducible exact ih1 _ _ _)
      | (with_reducible exact ih2 _ _ _ _)
      | (with_reducible exact ih3 _ _ _ _ _)
      | (with_reducible exact ih4 _ _ _ _ _ _ _ _ _)
      | (with_reducible exact ih5 _ _ _ _ _ _ _)
      | (with_reducible exact text_Hex.mono _ _)
      | (with_reducible exact LeO.refl _)
      | (with_reducible exact LeO.none _)
      | (with_reducible refine LeO.ite ?_ ?_)
      | (with_reducible refine LeO.bind ?_ (fun _ => ?_))
      | exact ih0 _ _
      | exact ih1 _ _ _
      | exact ih2 _ _ _ _
      | exact ih3 _ _ _ _ _
      | exact ih4 _ _ _ _ _ _ _ _ _
      | exact ih5 _ _ _ _ _ _ _
      | exact text_Hex.mono _ _
      | exact LeO.none _
      | refine LeO.ite ?_ ?_
      | refine LeO.bind ?_ (fun _ => ?_)
    · intro y0 y1 y2 y3 y4
      unfold woodcutlaw01_TextKinds.j3
      repeat' first
      | (with_reducible exact ih0 _ _)
      | (with_reducible exact ih1 _ _ _)
      | (with_reducible exact ih2 _ _ _ _)
      | (with_reducible exact ih3 _ _ _ _ _)
      | (with_reducible exact ih4 _ _ _ _ _ _ _ _ _)
      | (with_reducible exact ih5 _ _ _ _ _ _ _)
      | (with_reducible exact text_Hex.mono _ _)
      | (with_reducible exact LeO.refl _)
      | (with_reducible exact LeO.none _)
      | (with_reducible refine LeO.ite ?_ ?_)
      | (with_reducible refine LeO.bind ?_ (fun _ => ?_))
      | exact ih0 _ _
      | exact ih1 _ _ _
      | exact ih2 _ _ _ _
      | exact ih3 _ _ _ _ _
      | exact ih4 _ _ _ _ _ _ _ _ _
      | exact ih5 _ _ _ _ _ _ _
      | exact text_Hex.mono _ _
      | exact LeO.none _
      | refine LeO.ite ?_ ?_
      | refine LeO.bind ?_ (fun _ => ?_)
    · intro y0 y1 y2 y3 y4 y5 y6 y7 y8
      unfold woodcutlaw01_TextKinds.l0
      repeat' first
      | (with_reducible exact ih0 _ _)
      | (with_reducible exact ih1 _ _ _)
      | (with_reducible exact ih2 _ _ _ _)
      | (with_reducible exact ih3 _ _ _ _ _)
      | (with_reducible exact ih4 _ _ _ _ _ _ _ _ _)
      | (with_reducible exact ih5 _ _ _ _ _ _ _)
      | (with_reducible exact text_Hex.mono _ _)
      | (with_reducible exact LeO.refl _)
      | (with_reducible exact LeO.none _)
      | (with_reducible refine LeO.ite ?_ ?_)
      | (with_reducible refine LeO.bind ?_ (fun _ => ?_))
      | exact ih0 _ _
      | exact ih1 _ _ _
      | exact ih2 _ _ _ _
      | exact ih3 _ _ _ _ _
      | exact ih4 _ _ _ _ _ _ _ _ _
      | exact ih5 _ _ _ _ _ _ _
      | exact text_Hex.mono _ _
      | exact LeO.none _
      | refine LeO.ite ?_ ?_
      | refine LeO.bind ?_ (fun _ => ?_)
    · intro y0 y1 y2 y3 y4 y5 y6
      unfold woodcutlaw01_TextKinds.j5
      repeat' first
      | (with_reducible exact ih0 _ _)
      | (with_reducible exact ih1 _ _ _)
      | (with_reducible exact ih2 _ _ _ _)
      | (with_reducible exact ih3 _ _ _ _ _)
      | (with_reducible exact ih4 _ _ _ _ _ _ _ _ _)
      | (with_reducible exact ih5 _ _ _ _ _ _ _)
      | (with_reducible exact text_Hex.mono _ _)
      | (with_reducible exact LeO.refl _)
      | (with_reducible exact LeO.none _)
      | (with_reducible refine LeO.ite ?_ ?_)
      | (with_reducible refine LeO.bind ?_ (fun _ => ?_))
      | exact ih0 _ _
      | exact ih1 _ _ _
      | exact ih2 _ _ _ _
      | exact ih3 _ _ _ _ _
      | exact ih4 _ _ _ _ _ _ _ _ _
      | exact ih5 _ _ _ _ _ _ _
      | exact text_Hex.mono _ _
      | exact LeO.none _
      | refine LeO.ite ?_ ?_
      | refine LeO.bind ?_ (fun _ => ?_)
theorem woodcutlaw01_TextKinds.mono : ∀ a0 k, LeO (woodcutlaw01_TextKinds.f k a0) (woodcutlaw01_TextKinds.f (k + 1) a0) := by
  intro a0 k
  obtain ⟨ih0, ih1, ih2, ih3, ih4, ih5⟩ := woodcutlaw01_TextKinds.mono_l k
  unfold woodcutlaw01_TextKinds.f
  repeat' first
      | (with_reducible exact ih0 _ _)
      | (with_reducible exact ih1 _ _ _)
      | (with_reducible exact ih2 _ _ _ _)
      | (with_reducible exact ih3 _ _ _ _ _)
      | (with_reducible exact ih4 _ _ _ _ _ _ _ _ _)
      | (with_reducible exact ih5 _ _ _ _ _ _ _)
      | (with_reducible exact text_Hex.mono _ _)
      | (with_reducible exact LeO.refl _)
      | (with_reducible exact LeO.none _)
      | (with_reducible refine LeO.ite ?_ ?_)
      | (with_reducible refine LeO.bind ?_ (fun _ => ?_))
      | exact ih0 _ _
      | exact ih1 _ _ _
      | exact ih2 _ _ _ _
      | exact ih3 _ _ _ _ _
      | exact ih4 _ _ _ _ _ _ _ _ _
      | exact ih5 _ _ _ _ _ _ _
      | exact text_Hex.mono _ _
      | exact LeO.none _
      | refine LeO.ite ?_ ?_
      | refine LeO.bind ?_ (fun _ => ?_)
set_option maxHeartbeats 8000000 in
set_option maxRecDepth 100000 in
theorem woodcutlaw01_TextKinds.calls (k : Nat) (a0 : Int) (r : Bool) (w : World) (h : woodcutlaw01_TextKinds.f k a0 = some r) :
    Calls Try.prog 12 #[.int .i32 a0] w fun e w' => e = .returned (.bool r) ∧ Below w.heap.size w w' := by
  have HB := Aside0.mk (Below.refl w.heap.size w)
  have H : ((woodcutlaw01_head.f).bind fun t269 => (if t269 = true then (if a0 = 9 then (woodcutlaw01_TextKinds.j0 k a0 true) else (if a0 = 10 then (woodcutlaw01_TextKinds.j0 k a0 true) else (if a0 = 12 then (woodcutlaw01_TextKinds.j0 k a0 true) else (if a0 = 13 then (woodcutlaw01_TextKinds.j0 k a0 true) else (woodcutlaw01_TextKinds.j0 k a0 (a0 == 32)))))) else (some false))) = some r := h
  clear h
  replace H := Option.bind_eq_some_iff.mp H
  obtain ⟨t269, A20, H⟩ := H
  replace H : (if t269 = true then (if a0 = 9 then (woodcutlaw01_TextKinds.j0 k a0 true) else (if a0 = 10 then (woodcutlaw01_TextKinds.j0 k a0 true) else (if a0 = 12 then (woodcutlaw01_TextKinds.j0 k a0 true) else (if a0 = 13 then (woodcutlaw01_TextKinds.j0 k a0 true) else (woodcutlaw01_TextKinds.j0 k a0 (a0 == 32)))))) else (some false)) = some r := H
  have A2 := Aside0.mk A20
  clear A20
  by_cases c3 : t269 = true
  · subst c3
    have H1 : (if a0 = 9 then (woodcutlaw01_TextKinds.j0 k a0 true) else (if a0 = 10 then (woodcutlaw01_TextKinds.j0 k a0 true) else (if a0 = 12 then (woodcutlaw01_TextKinds.j0 k a0 true) else (if a0 = 13 then (woodcutlaw01_TextKinds.j0 k a0 true) else (woodcutlaw01_TextKinds.j0 k a0 (a0 == 32)))))) = some r := by rw [if_pos rfl] at H; exact H
    clear H
    have H := H1
    clear H1
    have HC4 := Aside0.mk H
    clear H
    go_enter Try.func12, Try.ntmps12
    go_upto_region 3 with (first | ((with_reducible refine gate_callee (f := 20) rfl ?_); refine goesL_ (some 11) rfl rfl Try.func20 (by kernel_rfl) rfl #[] rfl (by (try simp only [List.map_toArray, List.map_cons, List.map_nil]); first | done | rfl | (simp only [List.length_drop, List.length_take]; rfl)) ?_; (with_reducible refine (woodcutlaw01_head.calls  true _ A2.out).mono ?_); rintro e w5 ⟨rfl, hb⟩; refine ⟨_, rfl, ?_⟩; have n0_ := Aside0.mk (below_step (by repeat (first | (with_reducible first | exact HB.out | apply below_alloc | apply pw_below_drewN | apply below_drew1) | exact HB.out)) hb); clear HB; have HB := n0_; clear n0_; (try clear hb); (try clear hb2); (try clear hk); (try clear hi)))
    (try simp only [Act.put, List.setIfInBounds_toArray, List.set_cons_zero, List.set_cons_succ])
    go_cut [3] (fun v3 wc => ∃ (kq : Nat) (x3_3 : Bool), v3 = .bool x3_3 ∧ Aside0 (woodcutlaw01_TextKinds.j0 kq a0 x3_3 = some r) ∧ Aside0 (kq ≤ k) ∧ Aside0 (Below w.heap.size w wc))
    case first =>
      have H := HC4.out
      clear HC4
      by_cases c6 : a0 = 9
      · rw [if_pos c6] at H
        have c6b0 : (a0 == 9) = true := beq_iff_eq.mpr c6
        have c6b1 : (a0 != 9) = false := bne_eq_false_iff_eq.mpr c6
        clear c6
        (first | rw [c6b0] | (simp only [i64_w, i32_w]; rw [c6b0]) | skip)
        have H' := Aside0.mk H
        clear H
        go_wp2
        go_meet
        case rel => exact ⟨_, (true), (by first | rfl | (simp; done) | (simp [*]; done)), H', ⟨by first | omega | exact Nat.le_refl _⟩, ⟨by repeat (first | (with_reducible first | exact HB.out | apply below_alloc | apply pw_below_drewN | apply below_drew1) | exact HB.out)⟩⟩
      · rw [if_neg c6] at H
        have c6b0 : (a0 == 9) = false := beq_eq_false_iff_ne.mpr c6
        have c6b1 : (a0 != 9) = true := bne_iff_ne.mpr c6
        (first | rw [c6b0] | (simp only [i64_w, i32_w]; rw [c6b0]) | skip)
        by_cases c7 : a0 = 10
        · rw [if_pos c7] at H
          have c7b0 : (a0 == 10) = true := beq_iff_eq.mpr c7
          have c7b1 : (a0 != 10) = false := bne_eq_false_iff_eq.mpr c7
          clear c7
          have H' := Aside0.mk H
          clear H
          go_wp2
          go_meet
          case rel => exact ⟨_, (true), (by first | rfl | (simp; done) | (simp [*]; done)), H', ⟨by first | omega | exact Nat.le_refl _⟩, ⟨by repeat (first | (with_reducible first | exact HB.out | apply below_alloc | apply pw_below_drewN | apply below_drew1) | exact HB.out)⟩⟩
        · rw [if_neg c7] at H
          have c7b0 : (a0 == 10) = false := beq_eq_false_iff_ne.mpr c7
          have c7b1 : (a0 != 10) = true := bne_iff_ne.mpr c7
          by_cases c8 : a0 = 12
          · rw [if_pos c8] at H
            have c8b0 : (a0 == 12) = true := beq_iff_eq.mpr c8
            have c8b1 : (a0 != 12) = false := bne_eq_false_iff_eq.mpr c8
            clear c8
            have H' := Aside0.mk H
            clear H
            go_wp2
            go_meet
            case rel => exact ⟨_, (true), (by first | rfl | (simp; done) | (simp [*]; done)), H', ⟨by first | omega | exact Nat.le_refl _⟩, ⟨by repeat (first | (with_reducible first | exact HB.out | apply below_alloc | apply pw_below_drewN | apply below_drew1) | exact HB.out)⟩⟩
          · rw [if_neg c8] at H
            have c8b0 : (a0 == 12) = false := beq_eq_false_iff_ne.mpr c8
            have c8b1 : (a0 != 12) = true := bne_iff_ne.mpr c8
            by_cases c9 : a0 = 13
            · rw [if_pos c9] at H
              have c9b0 : (a0 == 13) = true := beq_iff_eq.mpr c9
              have c9b1 : (a0 != 13) = false := bne_eq_false_iff_eq.mpr c9
              clear c9
              have H' := Aside0.mk H
              clear H
              go_wp2
              go_meet
              case rel => exact ⟨_, (true), (by first | rfl | (simp; done) | (simp [*]; done)), H', ⟨by first | omega | exact Nat.le_refl _⟩, ⟨by repeat (first | (with_reducible first | exact HB.out | apply below_alloc | apply pw_below_drewN | apply below_drew1) | exact HB.out)⟩⟩
            · rw [if_neg c9] at H
              have c9b0 : (a0 == 13) = false := beq_eq_false_iff_ne.mpr c9
              have c9b1 : (a0 != 13) = true := bne_iff_ne.mpr c9
              have H' := Aside0.mk H
              clear H
              go_wp2
              go_meet
              case rel => exact ⟨_, ((a0 == 32)), (by first | rfl | (simp; done) | (simp [*]; done)), H', ⟨by first | omega | exact Nat.le_refl _⟩, ⟨by repeat (first | (with_reducible first | exact HB.out | apply below_alloc | apply pw_below_drewN | apply below_drew1) | exact HB.out)⟩⟩
    case rest =>
      clear HC4
      try clear c1
      try clear c2
      try clear p2
      try clear c3
      try clear c6
      try clear c6b0
      try clear c6b1
      try clear c7
      try clear c7b0
      try clear c7b1
      try clear c8
      try clear c8b0
      try clear c8b1
      try clear c9
      try clear c9b0
      try clear c9b1
      obtain ⟨kq, x3_3, rfl, HA, HJ3, HB⟩ := hcut
      cases kq with
      | zero => exact absurd HA.out (by simp [woodcutlaw01_TextKinds.j0])
      | succ kj3 =>
        have H := HA.out
        clear HA
        simp only [woodcutlaw01_TextKinds.j0] at H
        have HC10 := Aside0.mk H
        clear H
        go_upto_region 4 with (fail)
        go_cut [4] (fun v4 wc => ∃ (kq : Nat) (x4_9 : Bool), v4 = .bool x4_9 ∧ Aside0 (woodcutlaw01_TextKinds.j1 kq a0 x3_3 x4_9 = some r) ∧ Aside0 (kq ≤ kj3) ∧ Aside0 (Below w.heap.size w wc))
        case first =>
          have H := HC10.out
          clear HC10
          by_cases c11 : a0 ≥ 65
          · rw [if_pos c11] at H
            have c11b0 : decide (65 ≤ a0) = true := decide_eq_true c11
            clear c11
            (first | rw [c11b0] | (simp only [i64_w, i32_w]; rw [c11b0]) | skip)
            have H' := Aside0.mk H
            clear H
            go_wp2
            go_meet
            case rel => exact ⟨_, (decide (a0 ≤ 90)), (by first | rfl | (simp; done) | (simp [*]; done)), H', ⟨by have := HJ3.out; first | omega | exact Nat.le_refl _⟩, ⟨by repeat (first | (with_reducible first | exact HB.out | apply below_alloc | apply pw_below_drewN | apply below_drew1) | exact HB.out)⟩⟩
          · rw [if_neg c11] at H
            have c11b0 : decide (65 ≤ a0) = false := decide_eq_false c11
            clear c11
            (first | rw [c11b0] | (simp only [i64_w, i32_w]; rw [c11b0]) | skip)
            have H' := Aside0.mk H
            clear H
            go_wp2
            go_meet
            case rel => exact ⟨_, (false), (by first | rfl | (simp; done) | (simp [*]; done)), H', ⟨by have := HJ3.out; first | omega | exact Nat.le_refl _⟩, ⟨by repeat (first | (with_reducible first | exact HB.out | apply below_alloc | apply pw_below_drewN | apply below_drew1) | exact HB.out)⟩⟩
        case rest =>
          clear HC10
          try clear c1
          try clear c2
          try clear p2
          try clear c3
          try clear c6
          try clear c6b0
          try clear c6b1
          try clear c7
          try clear c7b0
          try clear c7b1
          try clear c8
          try clear c8b0
          try clear c8b1
          try clear c9
          try clear c9b0
          try clear c9b1
          try clear c11
          try clear c11b0
          try clear p2
          obtain ⟨kq, x4_9, rfl, HA, HJ9, HB⟩ := hcut
          cases kq with
          | zero => exact absurd HA.out (by simp [woodcutlaw01_TextKinds.j1])
          | succ kj9 =>
            have H := HA.out
            clear HA
            simp only [woodcutlaw01_TextKinds.j1] at H
            have HC12 := Aside0.mk H
            clear H
            go_upto_region 5 with (fail)
            go_cut [5] (fun v5 wc => ∃ (kq : Nat) (x5_11 : Bool), v5 = .bool x5_11 ∧ Aside0 (woodcutlaw01_TextKinds.j2 kq a0 x3_3 x4_9 x5_11 = some r) ∧ Aside0 (kq ≤ kj9) ∧ Aside0 (Below w.heap.size w wc))
            case first =>
              have H := HC12.out
              clear HC12
              by_cases c13 : a0 ≥ 97
              · rw [if_pos c13] at H
                have c13b0 : decide (97 ≤ a0) = true := decide_eq_true c13
                clear c13
                (first | rw [c13b0] | (simp only [i64_w, i32_w]; rw [c13b0]) | skip)
                have H' := Aside0.mk H
                clear H
                go_wp2
                go_meet
                case rel => exact ⟨_, (decide (a0 ≤ 122)), (by first | rfl | (simp; done) | (simp [*]; done)), H', ⟨by have := HJ3.out; have := HJ9.out; first | omega | exact Nat.le_refl _⟩, ⟨by repeat (first | (with_reducible first | exact HB.out | apply below_alloc | apply pw_below_drewN | apply below_drew1) | exact HB.out)⟩⟩
              · rw [if_neg c13] at H
                have c13b0 : decide (97 ≤ a0) = false := decide_eq_false c13
                clear c13
                (first | rw [c13b0] | (simp only [i64_w, i32_w]; rw [c13b0]) | skip)
                have H' := Aside0.mk H
                clear H
                go_wp2
                go_meet
                case rel => exact ⟨_, (false), (by first | rfl | (simp; done) | (simp [*]; done)), H', ⟨by have := HJ3.out; have := HJ9.out; first | omega | exact Nat.le_refl _⟩, ⟨by repeat (first | (with_reducible first | exact HB.out | apply below_alloc | apply pw_below_drewN | apply below_drew1) | exact HB.out)⟩⟩
            case rest =>
              clear HC12
              try clear c1
              try clear c2
              try clear p2
              try clear c3
              try clear c6
              try clear c6b0
              try clear c6b1
              try clear c7
              try clear c7b0
              try clear c7b1
              try clear c8
              try clear c8b0
              try clear c8b1
              try clear c9
              try clear c9b0
              try clear c9b1
              try clear c11
              try clear c11b0
              try clear c12
              try clear c13
              try clear c13b0
              try clear p2
              obtain ⟨kq, x5_11, rfl, HA, HJ11, HB⟩ := hcut
              cases kq with
              | zero => exact absurd HA.out (by simp [woodcutlaw01_TextKinds.j2])
              | succ kj11 =>
                have H := HA.out
                clear HA
                simp only [woodcutlaw01_TextKinds.j2] at H
                have HC14 := Aside0.mk H
                clear H
                go_upto_region 6 with (fail)
                go_cut [6] (fun v6 wc => ∃ (kq : Nat) (x6_13 : Bool), v6 = .bool x6_13 ∧ Aside0 (woodcutlaw01_TextKinds.j3 kq a0 x3_3 x4_9 x5_11 x6_13 = some r) ∧ Aside0 (kq ≤ kj11) ∧ Aside0 (Below w.heap.size w wc))
                case first =>
                  have H := HC14.out
                  clear HC14
                  by_cases c15 : a0 ≥ 48
                  · rw [if_pos c15] at H
                    have c15b0 : decide (48 ≤ a0) = true := decide_eq_true c15
                    clear c15
                    (first | rw [c15b0] | (simp only [i64_w, i32_w]; rw [c15b0]) | skip)
                    have H' := Aside0.mk H
                    clear H
                    go_wp2
                    go_meet
                    case rel => exact ⟨_, (decide (a0 ≤ 57)), (by first | rfl | (simp; done) | (simp [*]; done)), H', ⟨by have := HJ3.out; have := HJ9.out; have := HJ11.out; first | omega | exact Nat.le_refl _⟩, ⟨by repeat (first | (with_reducible first | exact HB.out | apply below_alloc | apply pw_below_drewN | apply below_drew1) | exact HB.out)⟩⟩
                  · rw [if_neg c15] at H
                    have c15b0 : decide (48 ≤ a0) = false := decide_eq_false c15
                    clear c15
                    (first | rw [c15b0] | (simp only [i64_w, i32_w]; rw [c15b0]) | skip)
                    have H' := Aside0.mk H
                    clear H
                    go_wp2
                    go_meet
                    case rel => exact ⟨_, (false), (by first | rfl | (simp; done) | (simp [*]; done)), H', ⟨by have := HJ3.out; have := HJ9.out; have := HJ11.out; first | omega | exact Nat.le_refl _⟩, ⟨by repeat (first | (with_reducible first | exact HB.out | apply below_alloc | apply pw_below_drewN | apply below_drew1) | exact HB.out)⟩⟩
                case rest =>
                  clear HC14
                  try clear c1
                  try clear c2
                  try clear p2
                  try clear c3
                  try clear c6
                  try clear c6b0
                  try clear c6b1
                  try clear c7
                  try clear c7b0
                  try clear c7b1
                  try clear c8
                  try clear c8b0
                  try clear c8b1
                  try clear c9
                  try clear c9b0
                  try clear c9b1
                  try clear c11
                  try clear c11b0
                  try clear c12
                  try clear c13
                  try clear c13b0
                  try clear c15
                  try clear c15b0
                  try clear p2
                  obtain ⟨kq, x6_13, rfl, HA, HJ13, HB⟩ := hcut
                  cases kq with
                  | zero => exact absurd HA.out (by simp [woodcutlaw01_TextKinds.j3])
                  | succ kj13 =>
                    have H := HA.out
                    clear HA
                    simp only [woodcutlaw01_TextKinds.j3] at H
                    obtain ⟨y270, hy270⟩ : ∃ y_ : List Int, y_ = (([48, 49, 50, 51, 52, 53, 54, 55, 56, 57, 97, 98, 99, 100, 101, 102] : List Int)) := ⟨_, rfl⟩
                    replace H : (woodcutlaw01_TextKinds.l0 kj13 a0 x3_3 x4_9 x5_11 x6_13 (-1) y270 (y270.length : Int) 0) = some r := by first | (rw [hy270]; with_reducible exact H) | (have H2_ := (Option.bind_some _ _).symm.trans H; rw [hy270]; with_reducible exact H2_) | (have H2_ := (Option.bind_some _ _).symm.trans H; with_reducible exact H2_) | with_reducible exact H | (rw [hy270]; exact H) | exact H
                    have Ny270 := Aside0.mk hy270
                    clear hy270
                    have H' := Aside0.mk H
                    clear H
                    go_wp2_with (first | ((with_reducible refine gate_dst (N := 49) rfl ?_); refine Kd.R_lit (Kd.int .i32) _ 21 ?hg (N := 49) ?hd (xs := ([48, 49, 50, 51, 52, 53, 54, 55, 56, 57, 97, 98, 99, 100, 101, 102] : List Int)) (inner := [.int .i32 48, .int .i32 49, .int .i32 50, .int .i32 51, .int .i32 52, .int .i32 53, .int .i32 54, .int .i32 55, .int .i32 56, .int .i32 57, .int .i32 97, .int .i32 98, .int .i32 99, .int .i32 100, .int .i32 101, .int .i32 102]) (ok := fun _ => True) (okp := fun _ => True) ?hr ?hp (fun _ hk => hk) trivial (Below.refl _ _) (Nat.le_refl _) (by simp) ?_; (case hd => rfl); (case hg => rfl); (case hr => first | (go_simp; done) | (go_simp; rfl)); (case hp => exact (Reps.one (show Kd.M (Kd.int .i32) _ _ _ 48 [.int .i32 48] from rfl) (Reps.one (show Kd.M (Kd.int .i32) _ _ _ 49 [.int .i32 49] from rfl) (Reps.one (show Kd.M (Kd.int .i32) _ _ _ 50 [.int .i32 50] from rfl) (Reps.one (show Kd.M (Kd.int .i32) _ _ _ 51 [.int .i32 51] from rfl) (Reps.one (show Kd.M (Kd.int .i32) _ _ _ 52 [.int .i32 52] from rfl) (Reps.one (show Kd.M (Kd.int .i32) _ _ _ 53 [.int .i32 53] from rfl) (Reps.one (show Kd.M (Kd.int .i32) _ _ _ 54 [.int .i32 54] from rfl) (Reps.one (show Kd.M (Kd.int .i32) _ _ _ 55 [.int .i32 55] from rfl) (Reps.one (show Kd.M (Kd.int .i32) _ _ _ 56 [.int .i32 56] from rfl) (Reps.one (show Kd.M (Kd.int .i32) _ _ _ 57 [.int .i32 57] from rfl) (Reps.one (show Kd.M (Kd.int .i32) _ _ _ 97 [.int .i32 97] from rfl) (Reps.one (show Kd.M (Kd.int .i32) _ _ _ 98 [.int .i32 98] from rfl) (Reps.one (show Kd.M (Kd.int .i32) _ _ _ 99 [.int .i32 99] from rfl) (Reps.one (show Kd.M (Kd.int .i32) _ _ _ 100 [.int .i32 100] from rfl) (Reps.one (show Kd.M (Kd.int .i32) _ _ _ 101 [.int .i32 101] from rfl) (Reps.one (show Kd.M (Kd.int .i32) _ _ _ 102 [.int .i32 102] from rfl) (Reps.none _ _)))))))))))))))))); intro v271 w16 ho17 hb hg_ hnew_; clear hg_ hnew_; (first | rw [← Ny270.out] at ho17 | (simp only [Int.reduceToNat] at ho17; rw [← Ny270.out] at ho17)); have n0_ := Aside0.mk (Kd.R_lower ho17 (below_size (by repeat (first | (with_reducible first | exact HB.out | apply below_alloc | apply pw_below_drewN | apply below_drew1) | exact HB.out)))); have n1_ := Aside0.mk (below_step (by repeat (first | (with_reducible first | exact HB.out | apply below_alloc | apply pw_below_drewN | apply below_drew1) | exact HB.out)) hb); clear HB; have HO272 := n0_; have HB := n1_; clear n0_ n1_; clear hb ho17; obtain ⟨Ao18, co18, eo18⟩ := Kd.R_slice HO272.out; subst eo18))
                    go_loopg [7, 51] kj13 (fun kq v7 v51 w' => ∃ (x7_5 : Int) (x51_5 : Int), v7 = .int .i64 x7_5 ∧ v51 = .int .i64 x51_5 ∧ Aside0 (woodcutlaw01_TextKinds.l0 kq a0 x3_3 x4_9 x5_11 x6_13 x7_5 y270 (y270.length : Int) x51_5 = some r) ∧ Aside0 (kq ≤ kj13) ∧ Aside0 (Kd.R (Kd.int .i32) 21 w' w.heap.size (fun _ => True) (.slice Ao18 y270.length co18) y270) ∧ Aside0 (Below w.heap.size w w'))
                    case atStart => exact ⟨((-1)), (0), (by first | rfl | (simp; done) | (simp [*]; done)), (by first | rfl | (simp; done) | (simp [*]; done)), H', ⟨Nat.le_refl _⟩, ⟨by (with_reducible repeat (first | apply Kd.R_alloc | apply Kd.R_drewN | apply Kd.R_drew)); exact HO272.out⟩, ⟨by repeat (first | (with_reducible first | exact HB.out | apply below_alloc | apply pw_below_drewN | apply below_drew1) | exact HB.out)⟩⟩
                    case round =>
                      clear H'
                      try clear c1
                      try clear c2
                      try clear p2
                      try clear c3
                      try clear c6
                      try clear c6b0
                      try clear c6b1
                      try clear c7
                      try clear c7b0
                      try clear c7b1
                      try clear c8
                      try clear c8b0
                      try clear c8b1
                      try clear c9
                      try clear c9b0
                      try clear c9b1
                      try clear c11
                      try clear c11b0
                      try clear c12
                      try clear c13
                      try clear c13b0
                      try clear c15
                      try clear c15b0
                      try clear p2
                      obtain ⟨x7_5, x51_5, rfl, rfl, HA, HK5, HO_49, HB⟩ := hrel
                      cases gk with
                      | zero => exact absurd HA.out (by simp [woodcutlaw01_TextKinds.l0])
                      | succ k5 =>
                        have H := HA.out
                        clear HA
                        simp only [woodcutlaw01_TextKinds.l0] at H
                        by_cases c19 : x51_5 < (y270.length : Int)
                        · rw [if_pos c19] at H
                          have c19b0 : decide (x51_5 < (y270.length : Int)) = true := decide_eq_true c19
                          clear c19
                          by_cases c20 : 0 ≤ x51_5
                          · rw [if_pos c20] at H
                            have c20b0 : decide (0 ≤ x51_5) = true := decide_eq_true c20
                            clear c20
                            by_cases c21 : x51_5 < (y270.length : Int)
                            · rw [if_pos c21] at H
                              have c21b0 : decide (x51_5 < (y270.length : Int)) = true := decide_eq_true c21
                              clear c21
                              by_cases c22 : a0 = (rd y270 x51_5)
                              · rw [if_pos c22] at H
                                have c22b0 : (a0 == (rd y270 x51_5)) = true := beq_iff_eq.mpr c22
                                have c22b1 : (a0 != (rd y270 x51_5)) = false := bne_eq_false_iff_eq.mpr c22
                                clear c22
                                have H' := Aside0.mk H
                                clear H
                                have p273 : 0 ≤ (x51_5 : Int) := of_decide_eq_true (by first | (with_reducible assumption) | assumption)
                                have q273 : x51_5 < (y270.length : Int) := of_decide_eq_true (by first | (with_reducible assumption) | assumption)
                                obtain ⟨ad273, e273, hx273_0⟩ := Kd.at_int (Kd.R_reads' HO_49.out).2.2 x51_5 p273 q273
                                cases e273
                                replace p273 := eq_true p273
                                replace q273 := eq_true q273
                                go_wp2
                                go_roundg k5
                                case measure => have := HJ3.out; have := HJ9.out; have := HJ11.out; have := HJ13.out; have := HK5.out; omega
                                case rel => exact ⟨(x51_5), (wrap64 (x51_5 + 1)), (by first | rfl | (simp; done) | (simp [*]; done)), (by first | rfl | (simp; done) | (simp [*]; done)), H', ⟨by have := HJ3.out; have := HJ9.out; have := HJ11.out; have := HJ13.out; have := HK5.out; omega⟩, ⟨by (with_reducible repeat (first | apply Kd.R_alloc | apply Kd.R_drewN | apply Kd.R_drew)); exact HO_49.out⟩, ⟨by repeat (first | (with_reducible first | exact HB.out | apply below_alloc | apply pw_below_drewN | apply below_drew1) | exact HB.out)⟩⟩
                              · rw [if_neg c22] at H
                                have c22b0 : (a0 == (rd y270 x51_5)) = false := beq_eq_false_iff_ne.mpr c22
                                have c22b1 : (a0 != (rd y270 x51_5)) = true := bne_iff_ne.mpr c22
                                by_cases c23 : a0 ≥ 65
                                · rw [if_pos c23] at H
                                  have c23b0 : decide (65 ≤ a0) = true := decide_eq_true c23
                                  clear c23
                                  by_cases c24 : a0 ≤ 70
                                  · rw [if_pos c24] at H
                                    have c24b0 : decide (a0 ≤ 70) = true := decide_eq_true c24
                                    clear c24
                                    by_cases c25 : (wrap32 (a0 + 32)) = (rd y270 x51_5)
                                    · rw [if_pos c25] at H
                                      have c25b0 : ((wrap32 (a0 + 32)) == (rd y270 x51_5)) = true := beq_iff_eq.mpr c25
                                      have c25b1 : ((wrap32 (a0 + 32)) != (rd y270 x51_5)) = false := bne_eq_false_iff_eq.mpr c25
                                      clear c25
                                      have H' := Aside0.mk H
                                      clear H
                                      have p273 : 0 ≤ (x51_5 : Int) := of_decide_eq_true (by first | (with_reducible assumption) | assumption)
                                      have q273 : x51_5 < (y270.length : Int) := of_decide_eq_true (by first | (with_reducible assumption) | assumption)
                                      obtain ⟨ad273, e273, hx273_0⟩ := Kd.at_int (Kd.R_reads' HO_49.out).2.2 x51_5 p273 q273
                                      cases e273
                                      replace p273 := eq_true p273
                                      replace q273 := eq_true q273
                                      go_wp2
                                      go_roundg k5
                                      case measure => have := HJ3.out; have := HJ9.out; have := HJ11.out; have := HJ13.out; have := HK5.out; omega
                                      case rel => exact ⟨(x51_5), (wrap64 (x51_5 + 1)), (by first | rfl | (simp; done) | (simp [*]; done)), (by first | rfl | (simp; done) | (simp [*]; done)), H', ⟨by have := HJ3.out; have := HJ9.out; have := HJ11.out; have := HJ13.out; have := HK5.out; omega⟩, ⟨by (with_reducible repeat (first | apply Kd.R_alloc | apply Kd.R_drewN | apply Kd.R_drew)); exact HO_49.out⟩, ⟨by repeat (first | (with_reducible first | exact HB.out | apply below_alloc | apply pw_below_drewN | apply below_drew1) | exact HB.out)⟩⟩
                                    · rw [if_neg c25] at H
                                      have c25b0 : ((wrap32 (a0 + 32)) == (rd y270 x51_5)) = false := beq_eq_false_iff_ne.mpr c25
                                      have c25b1 : ((wrap32 (a0 + 32)) != (rd y270 x51_5)) = true := bne_iff_ne.mpr c25
                                      have H' := Aside0.mk H
                                      clear H
                                      have p273 : 0 ≤ (x51_5 : Int) := of_decide_eq_true (by first | (with_reducible assumption) | assumption)
                                      have q273 : x51_5 < (y270.length : Int) := of_decide_eq_true (by first | (with_reducible assumption) | assumption)
                                      obtain ⟨ad273, e273, hx273_0⟩ := Kd.at_int (Kd.R_reads' HO_49.out).2.2 x51_5 p273 q273
                                      cases e273
                                      replace p273 := eq_true p273
                                      replace q273 := eq_true q273
                                      go_wp2
                                      go_roundg k5
                                      case measure => have := HJ3.out; have := HJ9.out; have := HJ11.out; have := HJ13.out; have := HK5.out; omega
                                      case rel => exact ⟨(x7_5), (wrap64 (x51_5 + 1)), (by first | rfl | (simp; done) | (simp [*]; done)), (by first | rfl | (simp; done) | (simp [*]; done)), H', ⟨by have := HJ3.out; have := HJ9.out; have := HJ11.out; have := HJ13.out; have := HK5.out; omega⟩, ⟨by (with_reducible repeat (first | apply Kd.R_alloc | apply Kd.R_drewN | apply Kd.R_drew)); exact HO_49.out⟩, ⟨by repeat (first | (with_reducible first | exact HB.out | apply below_alloc | apply pw_below_drewN | apply below_drew1) | exact HB.out)⟩⟩
                                  · rw [if_neg c24] at H
                                    have c24b0 : decide (a0 ≤ 70) = false := decide_eq_false c24
                                    clear c24
                                    have H' := Aside0.mk H
                                    clear H
                                    have p273 : 0 ≤ (x51_5 : Int) := of_decide_eq_true (by first | (with_reducible assumption) | assumption)
                                    have q273 : x51_5 < (y270.length : Int) := of_decide_eq_true (by first | (with_reducible assumption) | assumption)
                                    obtain ⟨ad273, e273, hx273_0⟩ := Kd.at_int (Kd.R_reads' HO_49.out).2.2 x51_5 p273 q273
                                    cases e273
                                    replace p273 := eq_true p273
                                    replace q273 := eq_true q273
                                    go_wp2
                                    go_roundg k5
                                    case measure => have := HJ3.out; have := HJ9.out; have := HJ11.out; have := HJ13.out; have := HK5.out; omega
                                    case rel => exact ⟨(x7_5), (wrap64 (x51_5 + 1)), (by first | rfl | (simp; done) | (simp [*]; done)), (by first | rfl | (simp; done) | (simp [*]; done)), H', ⟨by have := HJ3.out; have := HJ9.out; have := HJ11.out; have := HJ13.out; have := HK5.out; omega⟩, ⟨by (with_reducible repeat (first | apply Kd.R_alloc | apply Kd.R_drewN | apply Kd.R_drew)); exact HO_49.out⟩, ⟨by repeat (first | (with_reducible first | exact HB.out | apply below_alloc | apply pw_below_drewN | apply below_drew1) | exact HB.out)⟩⟩
                                · rw [if_neg c23] at H
                                  have c23b0 : decide (65 ≤ a0) = false := decide_eq_false c23
                                  clear c23
                                  have H' := Aside0.mk H
                                  clear H
                                  have p273 : 0 ≤ (x51_5 : Int) := of_decide_eq_true (by first | (with_reducible assumption) | assumption)
                                  have q273 : x51_5 < (y270.length : Int) := of_decide_eq_true (by first | (with_reducible assumption) | assumption)
                                  obtain ⟨ad273, e273, hx273_0⟩ := Kd.at_int (Kd.R_reads' HO_49.out).2.2 x51_5 p273 q273
                                  cases e273
                                  replace p273 := eq_true p273
                                  replace q273 := eq_true q273
                                  go_wp2
                                  go_roundg k5
                                  case measure => have := HJ3.out; have := HJ9.out; have := HJ11.out; have := HJ13.out; have := HK5.out; omega
                                  case rel => exact ⟨(x7_5), (wrap64 (x51_5 + 1)), (by first | rfl | (simp; done) | (simp [*]; done)), (by first | rfl | (simp; done) | (simp [*]; done)), H', ⟨by have := HJ3.out; have := HJ9.out; have := HJ11.out; have := HJ13.out; have := HK5.out; omega⟩, ⟨by (with_reducible repeat (first | apply Kd.R_alloc | apply Kd.R_drewN | apply Kd.R_drew)); exact HO_49.out⟩, ⟨by repeat (first | (with_reducible first | exact HB.out | apply below_alloc | apply pw_below_drewN | apply below_drew1) | exact HB.out)⟩⟩
                            · rw [if_neg c21] at H
                              exact absurd H (by simp)
                          · rw [if_neg c20] at H
                            exact absurd H (by simp)
                        · rw [if_neg c19] at H
                          have c19b0 : decide (x51_5 < (y270.length : Int)) = false := decide_eq_false c19
                          clear c19
                          have HC26 := Aside0.mk H
                          clear H
                          go_upto_if 76 with (fail)
                          go_cut [10] (fun v10 wc => ∃ (kq : Nat) (x10_25 : Int), v10 = .int .i32 x10_25 ∧ Aside0 (woodcutlaw01_TextKinds.j5 kq a0 x3_3 x4_9 x5_11 x6_13 x7_5 x10_25 = some r) ∧ Aside0 (kq ≤ k5) ∧ Aside0 (Below w.heap.size w wc))
                          case first =>
                            have H := HC26.out
                            clear HC26
                            by_cases c27 : x4_9 = true
                            · subst c27
                              have H1 : (woodcutlaw01_TextKinds.j5 k5 a0 x3_3 true x5_11 x6_13 x7_5 (wrap32 (a0 + 32))) = some r := by rw [if_pos rfl] at H; exact H
                              clear H
                              have H := H1
                              clear H1
                              have H' := Aside0.mk H
                              clear H
                              go_wp2
                              go_meet
                              case rel => exact ⟨_, (wrap32 (a0 + 32)), (by first | rfl | (simp; done) | (simp [*]; done)), H', ⟨by have := HJ3.out; have := HJ9.out; have := HJ11.out; have := HJ13.out; have := HK5.out; first | omega | exact Nat.le_refl _⟩, ⟨by repeat (first | (with_reducible first | exact HB.out | apply below_alloc | apply pw_below_drewN | apply below_drew1) | exact HB.out)⟩⟩
                            · replace c27 := Bool.eq_false_iff.mpr c27
                              subst c27
                              have H1 : (woodcutlaw01_TextKinds.j5 k5 a0 x3_3 false x5_11 x6_13 x7_5 a0) = some r := by rw [if_neg (show ¬ (false = true) by decide)] at H; exact H
                              clear H
                              have H := H1
                              clear H1
                              have H' := Aside0.mk H
                              clear H
                              go_wp2
                              go_meet
                              case rel => exact ⟨_, (a0), (by first | rfl | (simp; done) | (simp [*]; done)), H', ⟨by have := HJ3.out; have := HJ9.out; have := HJ11.out; have := HJ13.out; have := HK5.out; first | omega | exact Nat.le_refl _⟩, ⟨by repeat (first | (with_reducible first | exact HB.out | apply below_alloc | apply pw_below_drewN | apply below_drew1) | exact HB.out)⟩⟩
                          case rest =>
                            clear HC26
                            try clear c1
                            try clear c2
                            try clear p2
                            try clear q2
                            try clear hx2
                            try clear c3
                            try clear p3
                            try clear c6
                            try clear c6b0
                            try clear c6b1
                            try clear p6
                            try clear c7
                            try clear c7b0
                            try clear c7b1
                            try clear c8
                            try clear c8b0
                            try clear c8b1
                            try clear c9
                            try clear c9b0
                            try clear c9b1
                            try clear c11
                            try clear c11b0
                            try clear c12
                            try clear c13
                            try clear c13b0
                            try clear c15
                            try clear c15b0
                            try clear c19
                            try clear c19b0
                            try clear c20
                            try clear c20b0
                            try clear c21
                            try clear c21b0
                            try clear c22
                            try clear c22b0
                            try clear c22b1
                            try clear c23
                            try clear c23b0
                            try clear c24
                            try clear c24b0
                            try clear c25
                            try clear c25b0
                            try clear c25b1
                            try clear c27
                            try clear p27
                            try clear q27
                            try clear hx27
                            try clear hx273_0
                            try clear p2
                            try clear p273
                            try clear q273
                            obtain ⟨kq, x10_25, rfl, HA, HJ25, HB⟩ := hcut
                            cases kq with
                            | zero => exact absurd HA.out (by simp [woodcutlaw01_TextKinds.j5])
                            | succ kj25 =>
                              have H := HA.out
                              clear HA
                              simp only [woodcutlaw01_TextKinds.j5] at H
                              replace H := Option.bind_eq_some_iff.mp H
                              obtain ⟨t274, A280, H⟩ := H
                              replace H : (if (t274 == x3_3) = true then ((text_Letter.f a0).bind fun t275 => (if x4_9 = true then (if (t275 == true) = true then ((text_Digit.f a0).bind fun t276 => (if (t276 == x6_13) = true then ((text_Hex.f kj25 a0).bind fun t277 => (if t277 = x7_5 then ((text_Small.f a0).bind fun t278 => (some (t278 == x10_25))) else (some false))) else (some false))) else (some false)) else (if (t275 == x5_11) = true then ((text_Digit.f a0).bind fun t279 => (if (t279 == x6_13) = true then ((text_Hex.f kj25 a0).bind fun t280 => (if t280 = x7_5 then ((text_Small.f a0).bind fun t281 => (some (t281 == x10_25))) else (some false))) else (some false))) else (some false)))) else (some false)) = some r := H
                              have A28 := Aside0.mk A280
                              clear A280
                              by_cases c29 : (t274 == x3_3) = true
                              · rw [if_pos c29] at H
                                have c29b0 : (t274 == x3_3) = true := c29
                                (try (have c29b1 : decide (t274 = x3_3) = true := by simpa using c29))
                                (try (have c29b2 : (t274 == x3_3) = true := by simpa using c29))
                                clear c29
                                replace H := Option.bind_eq_some_iff.mp H
                                obtain ⟨t275, A300, H⟩ := H
                                replace H : (if x4_9 = true then (if (t275 == true) = true then ((text_Digit.f a0).bind fun t276 => (if (t276 == x6_13) = true then ((text_Hex.f kj25 a0).bind fun t277 => (if t277 = x7_5 then ((text_Small.f a0).bind fun t278 => (some (t278 == x10_25))) else (some false))) else (some false))) else (some false)) else (if (t275 == x5_11) = true then ((text_Digit.f a0).bind fun t279 => (if (t279 == x6_13) = true then ((text_Hex.f kj25 a0).bind fun t280 => (if t280 = x7_5 then ((text_Small.f a0).bind fun t281 => (some (t281 == x10_25))) else (some false))) else (some false))) else (some false))) = some r := H
                                have A30 := Aside0.mk A300
                                clear A300
                                by_cases c31 : x4_9 = true
                                · subst c31
                                  have H1 : (if (t275 == true) = true then ((text_Digit.f a0).bind fun t276 => (if (t276 == x6_13) = true then ((text_Hex.f kj25 a0).bind fun t277 => (if t277 = x7_5 then ((text_Small.f a0).bind fun t278 => (some (t278 == x10_25))) else (some false))) else (some false))) else (some false)) = some r := by rw [if_pos rfl] at H; exact H
                                  clear H
                                  have H := H1
                                  clear H1
                                  by_cases c32 : (t275 == true) = true
                                  · rw [if_pos c32] at H
                                    have c32b0 : (t275 == true) = true := c32
                                    (try (have c32b1 : decide (t275 = true) = true := by simpa using c32))
                                    (try (have c32b2 : (t275 == true) = true := by simpa using c32))
                                    clear c32
                                    replace H := Option.bind_eq_some_iff.mp H
                                    obtain ⟨t276, A330, H⟩ := H
                                    replace H : (if (t276 == x6_13) = true then ((text_Hex.f kj25 a0).bind fun t277 => (if t277 = x7_5 then ((text_Small.f a0).bind fun t278 => (some (t278 == x10_25))) else (some false))) else (some false)) = some r := H
                                    have A33 := Aside0.mk A330
                                    clear A330
                                    by_cases c34 : (t276 == x6_13) = true
                                    · rw [if_pos c34] at H
                                      have c34b0 : (t276 == x6_13) = true := c34
                                      (try (have c34b1 : decide (t276 = x6_13) = true := by simpa using c34))
                                      (try (have c34b2 : (t276 == x6_13) = true := by simpa using c34))
                                      clear c34
                                      replace H := Option.bind_eq_some_iff.mp H
                                      obtain ⟨t277, A350, H⟩ := H
                                      replace H : (if t277 = x7_5 then ((text_Small.f a0).bind fun t278 => (some (t278 == x10_25))) else (some false)) = some r := H
                                      have A35 := Aside0.mk A350
                                      clear A350
                                      by_cases c36 : t277 = x7_5
                                      · rw [if_pos c36] at H
                                        have c36b0 : (t277 == x7_5) = true := beq_iff_eq.mpr c36
                                        have c36b1 : (t277 != x7_5) = false := bne_eq_false_iff_eq.mpr c36
                                        clear c36
                                        replace H := Option.bind_eq_some_iff.mp H
                                        obtain ⟨t278, A370, H⟩ := H
                                        replace H : (some (t278 == x10_25)) = some r := H
                                        have A37 := Aside0.mk A370
                                        clear A370
                                        obtain rfl := Option.some.inj H
                                        go_wp2_with (first | ((with_reducible refine gate_callee (f := 33) rfl ?_); refine goesL_ (some 80) rfl rfl Try.func33 (by kernel_rfl) rfl #[.int .i32 a0] rfl (by (try simp only [List.map_toArray, List.map_cons, List.map_nil]); first | done | rfl | (simp only [List.length_drop, List.length_take]; rfl)) ?_; (with_reducible refine (text_Blank.calls a0 t274 _ A28.out).mono ?_); rintro e w' ⟨rfl, ⟨nd, rfl⟩⟩; refine ⟨_, rfl, ?_⟩) | (go_at_call 34; (with_reducible refine (text_Letter.calls a0 t275 _ A30.out).mono ?_); rintro e w' ⟨rfl, ⟨nd, rfl⟩⟩) | (go_at_call 35; (with_reducible refine (text_Digit.calls a0 t276 _ A33.out).mono ?_); rintro e w' ⟨rfl, ⟨nd, rfl⟩⟩) | (go_at_call 36; (with_reducible refine (text_Hex.calls kj25 a0 t277 _ A35.out).mono ?_); rintro e w' ⟨rfl, ⟨nd, rfl⟩⟩) | (go_at_call 37; (with_reducible refine (text_Small.calls a0 t278 _ A37.out).mono ?_); rintro e w' ⟨rfl, ⟨nd, rfl⟩⟩))
                                        go_ret
                                        exact ⟨by first | rfl | (simp [errW_none, errW_some] <;> rfl) | (simp [*, errW_none, errW_some] <;> rfl), by repeat (first | (with_reducible first | exact HB.out | apply below_alloc | apply pw_below_drewN | apply below_drew1) | exact HB.out)⟩
                                      · rw [if_neg c36] at H
                                        have c36b0 : (t277 == x7_5) = false := beq_eq_false_iff_ne.mpr c36
                                        have c36b1 : (t277 != x7_5) = true := bne_iff_ne.mpr c36
                                        obtain rfl := Option.some.inj H
                                        go_wp2_with (first | ((with_reducible refine gate_callee (f := 33) rfl ?_); refine goesL_ (some 80) rfl rfl Try.func33 (by kernel_rfl) rfl #[.int .i32 a0] rfl (by (try simp only [List.map_toArray, List.map_cons, List.map_nil]); first | done | rfl | (simp only [List.length_drop, List.length_take]; rfl)) ?_; (with_reducible refine (text_Blank.calls a0 t274 _ A28.out).mono ?_); rintro e w' ⟨rfl, ⟨nd, rfl⟩⟩; refine ⟨_, rfl, ?_⟩) | (go_at_call 34; (with_reducible refine (text_Letter.calls a0 t275 _ A30.out).mono ?_); rintro e w' ⟨rfl, ⟨nd, rfl⟩⟩) | (go_at_call 35; (with_reducible refine (text_Digit.calls a0 t276 _ A33.out).mono ?_); rintro e w' ⟨rfl, ⟨nd, rfl⟩⟩) | (go_at_call 36; (with_reducible refine (text_Hex.calls kj25 a0 t277 _ A35.out).mono ?_); rintro e w' ⟨rfl, ⟨nd, rfl⟩⟩))
                                        go_ret
                                        exact ⟨by first | rfl | (simp [errW_none, errW_some] <;> rfl) | (simp [*, errW_none, errW_some] <;> rfl), by repeat (first | (with_reducible first | exact HB.out | apply below_alloc | apply pw_below_drewN | apply below_drew1) | exact HB.out)⟩
                                    · rw [if_neg c34] at H
                                      have c34b0 : (t276 == x6_13) = false := by simpa using c34
                                      (try (have c34b1 : decide (t276 = x6_13) = false := by simpa using c34))
                                      (try (have c34b2 : (t276 == x6_13) = false := by simpa using c34))
                                      (try (have c34b3 : ¬ (t276 = x6_13) := by simpa using c34))
                                      clear c34
                                      obtain rfl := Option.some.inj H
                                      go_wp2_with (first | ((with_reducible refine gate_callee (f := 33) rfl ?_); refine goesL_ (some 80) rfl rfl Try.func33 (by kernel_rfl) rfl #[.int .i32 a0] rfl (by (try simp only [List.map_toArray, List.map_cons, List.map_nil]); first | done | rfl | (simp only [List.length_drop, List.length_take]; rfl)) ?_; (with_reducible refine (text_Blank.calls a0 t274 _ A28.out).mono ?_); rintro e w' ⟨rfl, ⟨nd, rfl⟩⟩; refine ⟨_, rfl, ?_⟩) | (go_at_call 34; (with_reducible refine (text_Letter.calls a0 t275 _ A30.out).mono ?_); rintro e w' ⟨rfl, ⟨nd, rfl⟩⟩) | (go_at_call 35; (with_reducible refine (text_Digit.calls a0 t276 _ A33.out).mono ?_); rintro e w' ⟨rfl, ⟨nd, rfl⟩⟩))
                                      go_ret
                                      exact ⟨by first | rfl | (simp [errW_none, errW_some] <;> rfl) | (simp [*, errW_none, errW_some] <;> rfl), by repeat (first | (with_reducible first | exact HB.out | apply below_alloc | apply pw_below_drewN | apply below_drew1) | exact HB.out)⟩
                                  · rw [if_neg c32] at H
                                    have c32b0 : (t275 == true) = false := by simpa using c32
                                    (try (have c32b1 : decide (t275 = true) = false := by simpa using c32))
                                    (try (have c32b2 : (t275 == true) = false := by simpa using c32))
                                    (try (have c32b3 : ¬ (t275 = true) := by simpa using c32))
                                    clear c32
                                    obtain rfl := Option.some.inj H
                                    go_wp2_with (first | ((with_reducible refine gate_callee (f := 33) rfl ?_); refine goesL_ (some 80) rfl rfl Try.func33 (by kernel_rfl) rfl #[.int .i32 a0] rfl (by (try simp only [List.map_toArray, List.map_cons, List.map_nil]); first | done | rfl | (simp only [List.length_drop, List.length_take]; rfl)) ?_; (with_reducible refine (text_Blank.calls a0 t274 _ A28.out).mono ?_); rintro e w' ⟨rfl, ⟨nd, rfl⟩⟩; refine ⟨_, rfl, ?_⟩) | (go_at_call 34; (with_reducible refine (text_Letter.calls a0 t275 _ A30.out).mono ?_); rintro e w' ⟨rfl, ⟨nd, rfl⟩⟩))
                                    go_ret
                                    exact ⟨by first | rfl | (simp [errW_none, errW_some] <;> rfl) | (simp [*, errW_none, errW_some] <;> rfl), by repeat (first | (with_reducible first | exact HB.out | apply below_alloc | apply pw_below_drewN | apply below_drew1) | exact HB.out)⟩
                                · replace c31 := Bool.eq_false_iff.mpr c31
                                  subst c31
                                  have H1 : (if (t275 == x5_11) = true then ((text_Digit.f a0).bind fun t279 => (if (t279 == x6_13) = true then ((text_Hex.f kj25 a0).bind fun t280 => (if t280 = x7_5 then ((text_Small.f a0).bind fun t281 => (some (t281 == x10_25))) else (some false))) else (some false))) else (some false)) = some r := by rw [if_neg (show ¬ (false = true) by decide)] at H; exact H
                                  clear H
                                  have H := H1
                                  clear H1
                                  by_cases c38 : (t275 == x5_11) = true
                                  · rw [if_pos c38] at H
                                    have c38b0 : (t275 == x5_11) = true := c38
                                    (try (have c38b1 : decide (t275 = x5_11) = true := by simpa using c38))
                                    (try (have c38b2 : (t275 == x5_11) = true := by simpa using c38))
                                    clear c38
                                    replace H := Option.bind_eq_some_iff.mp H
                                    obtain ⟨t279, A390, H⟩ := H
                                    replace H : (if (t279 == x6_13) = true then ((text_Hex.f kj25 a0).bind fun t280 => (if t280 = x7_5 then ((text_Small.f a0).bind fun t281 => (some (t281 == x10_25))) else (some false))) else (some false)) = some r := H
                                    have A39 := Aside0.mk A390
                                    clear A390
                                    by_cases c40 : (t279 == x6_13) = true
                                    · rw [if_pos c40] at H
                                      have c40b0 : (t279 == x6_13) = true := c40
                                      (try (have c40b1 : decide (t279 = x6_13) = true := by simpa using c40))
                                      (try (have c40b2 : (t279 == x6_13) = true := by simpa using c40))
                                      clear c40
                                      replace H := Option.bind_eq_some_iff.mp H
                                      obtain ⟨t280, A410, H⟩ := H
                                      replace H : (if t280 = x7_5 then ((text_Small.f a0).bind fun t281 => (some (t281 == x10_25))) else (some false)) = some r := H
                                      have A41 := Aside0.mk A410
                                      clear A410
                                      by_cases c42 : t280 = x7_5
                                      · rw [if_pos c42] at H
                                        have c42b0 : (t280 == x7_5) = true := beq_iff_eq.mpr c42
                                        have c42b1 : (t280 != x7_5) = false := bne_eq_false_iff_eq.mpr c42
                                        clear c42
                                        replace H := Option.bind_eq_some_iff.mp H
                                        obtain ⟨t281, A430, H⟩ := H
                                        replace H : (some (t281 == x10_25)) = some r := H
                                        have A43 := Aside0.mk A430
                                        clear A430
                                        obtain rfl := Option.some.inj H
                                        go_wp2_with (first | ((with_reducible refine gate_callee (f := 33) rfl ?_); refine goesL_ (some 80) rfl rfl Try.func33 (by kernel_rfl) rfl #[.int .i32 a0] rfl (by (try simp only [List.map_toArray, List.map_cons, List.map_nil]); first | done | rfl | (simp only [List.length_drop, List.length_take]; rfl)) ?_; (with_reducible refine (text_Blank.calls a0 t274 _ A28.out).mono ?_); rintro e w' ⟨rfl, ⟨nd, rfl⟩⟩; refine ⟨_, rfl, ?_⟩) | (go_at_call 34; (with_reducible refine (text_Letter.calls a0 t275 _ A30.out).mono ?_); rintro e w' ⟨rfl, ⟨nd, rfl⟩⟩) | (go_at_call 35; (with_reducible refine (text_Digit.calls a0 t279 _ A39.out).mono ?_); rintro e w' ⟨rfl, ⟨nd, rfl⟩⟩) | (go_at_call 36; (with_reducible refine (text_Hex.calls kj25 a0 t280 _ A41.out).mono ?_); rintro e w' ⟨rfl, ⟨nd, rfl⟩⟩) | (go_at_call 37; (with_reducible refine (text_Small.calls a0 t281 _ A43.out).mono ?_); rintro e w' ⟨rfl, ⟨nd, rfl⟩⟩))
                                        go_ret
                                        exact ⟨by first | rfl | (simp [errW_none, errW_some] <;> rfl) | (simp [*, errW_none, errW_some] <;> rfl), by repeat (first | (with_reducible first | exact HB.out | apply below_alloc | apply pw_below_drewN | apply below_drew1) | exact HB.out)⟩
                                      · rw [if_neg c42] at H
                                        have c42b0 : (t280 == x7_5) = false := beq_eq_false_iff_ne.mpr c42
                                        have c42b1 : (t280 != x7_5) = true := bne_iff_ne.mpr c42
                                        obtain rfl := Option.some.inj H
                                        go_wp2_with (first | ((with_reducible refine gate_callee (f := 33) rfl ?_); refine goesL_ (some 80) rfl rfl Try.func33 (by kernel_rfl) rfl #[.int .i32 a0] rfl (by (try simp only [List.map_toArray, List.map_cons, List.map_nil]); first | done | rfl | (simp only [List.length_drop, List.length_take]; rfl)) ?_; (with_reducible refine (text_Blank.calls a0 t274 _ A28.out).mono ?_); rintro e w' ⟨rfl, ⟨nd, rfl⟩⟩; refine ⟨_, rfl, ?_⟩) | (go_at_call 34; (with_reducible refine (text_Letter.calls a0 t275 _ A30.out).mono ?_); rintro e w' ⟨rfl, ⟨nd, rfl⟩⟩) | (go_at_call 35; (with_reducible refine (text_Digit.calls a0 t279 _ A39.out).mono ?_); rintro e w' ⟨rfl, ⟨nd, rfl⟩⟩) | (go_at_call 36; (with_reducible refine (text_Hex.calls kj25 a0 t280 _ A41.out).mono ?_); rintro e w' ⟨rfl, ⟨nd, rfl⟩⟩))
                                        go_ret
                                        exact ⟨by first | rfl | (simp [errW_none, errW_some] <;> rfl) | (simp [*, errW_none, errW_some] <;> rfl), by repeat (first | (with_reducible first | exact HB.out | apply below_alloc | apply pw_below_drewN | apply below_drew1) | exact HB.out)⟩
                                    · rw [if_neg c40] at H
                                      have c40b0 : (t279 == x6_13) = false := by simpa using c40
                                      (try (have c40b1 : decide (t279 = x6_13) = false := by simpa using c40))
                                      (try (have c40b2 : (t279 == x6_13) = false := by simpa using c40))
                                      (try (have c40b3 : ¬ (t279 = x6_13) := by simpa using c40))
                                      clear c40
                                      obtain rfl := Option.some.inj H
                                      go_wp2_with (first | ((with_reducible refine gate_callee (f := 33) rfl ?_); refine goesL_ (some 80) rfl rfl Try.func33 (by kernel_rfl) rfl #[.int .i32 a0] rfl (by (try simp only [List.map_toArray, List.map_cons, List.map_nil]); first | done | rfl | (simp only [List.length_drop, List.length_take]; rfl)) ?_; (with_reducible refine (text_Blank.calls a0 t274 _ A28.out).mono ?_); rintro e w' ⟨rfl, ⟨nd, rfl⟩⟩; refine ⟨_, rfl, ?_⟩) | (go_at_call 34; (with_reducible refine (text_Letter.calls a0 t275 _ A30.out).mono ?_); rintro e w' ⟨rfl, ⟨nd, rfl⟩⟩) | (go_at_call 35; (with_reducible refine (text_Digit.calls a0 t279 _ A39.out).mono ?_); rintro e w' ⟨rfl, ⟨nd, rfl⟩⟩))
                                      go_ret
                                      exact ⟨by first | rfl | (simp [errW_none, errW_some] <;> rfl) | (simp [*, errW_none, errW_some] <;> rfl), by repeat (first | (with_reducible first | exact HB.out | apply below_alloc | apply pw_below_drewN | apply below_drew1) | exact HB.out)⟩
                                  · rw [if_neg c38] at H
                                    have c38b0 : (t275 == x5_11) = false := by simpa using c38
                                    (try (have c38b1 : decide (t275 = x5_11) = false := by simpa using c38))
                                    (try (have c38b2 : (t275 == x5_11) = false := by simpa using c38))
                                    (try (have c38b3 : ¬ (t275 = x5_11) := by simpa using c38))
                                    clear c38
                                    obtain rfl := Option.some.inj H
                                    go_wp2_with (first | ((with_reducible refine gate_callee (f := 33) rfl ?_); refine goesL_ (some 80) rfl rfl Try.func33 (by kernel_rfl) rfl #[.int .i32 a0] rfl (by (try simp only [List.map_toArray, List.map_cons, List.map_nil]); first | done | rfl | (simp only [List.length_drop, List.length_take]; rfl)) ?_; (with_reducible refine (text_Blank.calls a0 t274 _ A28.out).mono ?_); rintro e w' ⟨rfl, ⟨nd, rfl⟩⟩; refine ⟨_, rfl, ?_⟩) | (go_at_call 34; (with_reducible refine (text_Letter.calls a0 t275 _ A30.out).mono ?_); rintro e w' ⟨rfl, ⟨nd, rfl⟩⟩))
                                    go_ret
                                    exact ⟨by first | rfl | (simp [errW_none, errW_some] <;> rfl) | (simp [*, errW_none, errW_some] <;> rfl), by repeat (first | (with_reducible first | exact HB.out | apply below_alloc | apply pw_below_drewN | apply below_drew1) | exact HB.out)⟩
                              · rw [if_neg c29] at H
                                have c29b0 : (t274 == x3_3) = false := by simpa using c29
                                (try (have c29b1 : decide (t274 = x3_3) = false := by simpa using c29))
                                (try (have c29b2 : (t274 == x3_3) = false := by simpa using c29))
                                (try (have c29b3 : ¬ (t274 = x3_3) := by simpa using c29))
                                clear c29
                                obtain rfl := Option.some.inj H
                                go_wp2_with (first | ((with_reducible refine gate_callee (f := 33) rfl ?_); refine goesL_ (some 80) rfl rfl Try.func33 (by kernel_rfl) rfl #[.int .i32 a0] rfl (by (try simp only [List.map_toArray, List.map_cons, List.map_nil]); first | done | rfl | (simp only [List.length_drop, List.length_take]; rfl)) ?_; (with_reducible refine (text_Blank.calls a0 t274 _ A28.out).mono ?_); rintro e w' ⟨rfl, ⟨nd, rfl⟩⟩; refine ⟨_, rfl, ?_⟩))
                                go_ret
                                exact ⟨by first | rfl | (simp [errW_none, errW_some] <;> rfl) | (simp [*, errW_none, errW_some] <;> rfl), by repeat (first | (with_reducible first | exact HB.out | apply below_alloc | apply pw_below_drewN | apply below_drew1) | exact HB.out)⟩
  · replace c3 := Bool.eq_false_iff.mpr c3
    subst c3
    have H1 : (some false) = some r := by rw [if_neg (show ¬ (false = true) by decide)] at H; exact H
    clear H
    have H := H1
    clear H1
    obtain rfl := Option.some.inj H
    go_enter Try.func12, Try.ntmps12
    go_wp2_with (first | ((with_reducible refine gate_callee (f := 20) rfl ?_); refine goesL_ (some 11) rfl rfl Try.func20 (by kernel_rfl) rfl #[] rfl (by (try simp only [List.map_toArray, List.map_cons, List.map_nil]); first | done | rfl | (simp only [List.length_drop, List.length_take]; rfl)) ?_; (with_reducible refine (woodcutlaw01_head.calls  false _ A2.out).mono ?_); rintro e w44 ⟨rfl, hb⟩; refine ⟨_, rfl, ?_⟩; have n0_ := Aside0.mk (below_step (by repeat (first | (with_reducible first | exact HB.out | apply below_alloc | apply pw_below_drewN | apply below_drew1) | exact HB.out)) hb); clear HB; have HB := n0_; clear n0_; (try clear hb); (try clear hb2); (try clear hk); (try clear hi)))
    go_ret
    exact ⟨by first | rfl | (simp [errW_none, errW_some] <;> rfl) | (simp [*, errW_none, errW_some] <;> rfl), by repeat (first | (with_reducible first | exact HB.out | apply below_alloc | apply pw_below_drewN | apply below_drew1) | exact HB.out)⟩

/-- THE ONE PURE STATEMENT of woodcutlaw01_TextKinds: yours. -/
def woodcutlaw01_TextKinds.Pure : Prop := ∀ (a0 : Int), (Lit.int .i32 a0).wf = true → ∃ k, woodcutlaw01_TextKinds.f k a0 = some true
theorem woodcutlaw01_TextKinds.walk (P : woodcutlaw01_TextKinds.Pure) (a0 : Int) (w : World) (w0 : (Lit.int .i32 a0).wf = true) :
    Calls Try.prog 12 #[.int .i32 a0] w fun e w' => e = .returned (.bool true) ∧ Below w.heap.size w w' := by
  obtain ⟨k, h⟩ := P a0 w0
  refine (woodcutlaw01_TextKinds.calls k a0 true w h).mono ?_
  rintro e w' ⟨rfl, hd⟩
  exact ⟨rfl, hd⟩

end Go.Proofs.Ytccadgnbomgpcaa.Tx
