-- Written by a program of this session (wip/inj.py) over the kit's own print; Lean checks it.
import Derived.Test.YtccadgnbomgpcaaTx0
namespace Go.Proofs.Ytccadgnbomgpcaa.Tx
open Go.RowKit Go.Proofs.YtccadgnbomgpcaaW.PrintWords Go.Proofs.YtccadgnbomgpcaaW.PrintLast Go.Proofs.YtccadgnbomgpcaaW.PrintMore
attribute [local go_sem] max2_int min2_int max_two min_two max_three min_three max_four min_four   -- for this text's walks alone
set_option linter.unusedVariables false
set_option linter.unusedSimpArgs false

/-! ### woodcutref01_second: function 55 -/
mutual
def woodcutref01_second.j0 : Nat → Int → Int → Int → Int → Option (Bool)
  | 0, _, _, _, _ => none
  | k + 1, x0, x1, x5, x6 => if x0 = 237 then (woodcutref01_second.j1 k x0 x1 x5 159) else (woodcutref01_second.j1 k x0 x1 x5 x6)
def woodcutref01_second.j1 : Nat → Int → Int → Int → Int → Option (Bool)
  | 0, _, _, _, _ => none
  | k + 1, x0, x1, x5, x6 => if x0 = 240 then (if x0 = 244 then (if x1 ≥ 144 then (some (decide (x1 ≤ 143))) else (some false)) else (if x1 ≥ 144 then (some (decide (x1 ≤ x6))) else (some false))) else (if x0 = 244 then (if x1 ≥ x5 then (some (decide (x1 ≤ 143))) else (some false)) else (if x1 ≥ x5 then (some (decide (x1 ≤ x6))) else (some false)))
end
def woodcutref01_second.f (k : Nat) (a0 : Int) (a1 : Int) : Option (Bool) := if a0 = 224 then (woodcutref01_second.j0 k a0 a1 160 191) else (woodcutref01_second.j0 k a0 a1 128 191)
theorem woodcutref01_second.mono_l : ∀ k, (∀ y0 y1 y2 y3, LeO (woodcutref01_second.j0 k y0 y1 y2 y3) (woodcutref01_second.j0 (k + 1) y0 y1 y2 y3)) ∧ (∀ y0 y1 y2 y3, LeO (woodcutref01_second.j1 k y0 y1 y2 y3) (woodcutref01_second.j1 (k + 1) y0 y1 y2 y3))
  | 0 => ⟨fun _ _ _ _ r h => by simp [woodcutref01_second.j0] at h, fun _ _ _ _ r h => by simp [woodcutref01_second.j1] at h⟩
  | k + 1 => by
    obtain ⟨ih0, ih1⟩ := woodcutref01_second.mono_l k
    refine ⟨?_, ?_⟩
    · intro y0 y1 y2 y3
      unfold woodcutref01_second.j0
      repeat' first
      | (with_reducible exact ih0 _ _ _ _)
      | (with_reducible exact ih1 _ _ _ _)
      | (with_reducible exact LeO.refl _)
      | (with_reducible exact LeO.none _)
      | (with_reducible refine LeO.ite ?_ ?_)
      | (with_reducible refine LeO.bind ?_ (fun _ => ?_))
      | exact ih0 _ _ _ _
      | exact ih1 _ _ _ _
      | exact LeO.none _
      | refine LeO.ite ?_ ?_
      | refine LeO.bind ?_ (fun _ => ?_)
    · intro y0 y1 y2 y3
      unfold woodcutref01_second.j1
      repeat' first
      | (with_reducible exact ih0 _ _ _ _)
      | (with_reducible exact ih1 _ _ _ _)
      | (with_reducible exact LeO.refl _)
      | (with_reducible exact LeO.none _)
      | (with_reducible refine LeO.ite ?_ ?_)
      | (with_reducible refine LeO.bind ?_ (fun _ => ?_))
      | exact ih0 _ _ _ _
      | exact ih1 _ _ _ _
      | exact LeO.none _
      | refine LeO.ite ?_ ?_
      | refine LeO.bind ?_ (fun _ => ?_)
theorem woodcutref01_second.mono : ∀ a0 a1 k, LeO (woodcutref01_second.f k a0 a1) (woodcutref01_second.f (k + 1) a0 a1) := by
  intro a0 a1 k
  obtain ⟨ih0, ih1⟩ := woodcutref01_second.mono_l k
  unfold woodcutref01_second.f
  repeat' first
      | (with_reducible exact ih0 _ _ _ _)
      | (with_reducible exact ih1 _ _ _ _)
      | (with_reducible exact LeO.refl _)
      | (with_reducible exact LeO.none _)
      | (with_reducible refine LeO.ite ?_ ?_)
      | (with_reducible refine LeO.bind ?_ (fun _ => ?_))
      | exact ih0 _ _ _ _
      | exact ih1 _ _ _ _
      | exact LeO.none _
      | refine LeO.ite ?_ ?_
      | refine LeO.bind ?_ (fun _ => ?_)
set_option maxHeartbeats 8000000 in
set_option maxRecDepth 100000 in
theorem woodcutref01_second.calls (k : Nat) (a0 : Int) (a1 : Int) (r : Bool) (w : World) (h : woodcutref01_second.f k a0 a1 = some r) :
    Calls Try.prog 55 #[.int .u8 a0, .int .u8 a1] w fun e w' => e = .returned (.bool r) ∧ Drawn0 w w' := by
  have H : (if a0 = 224 then (woodcutref01_second.j0 k a0 a1 160 191) else (woodcutref01_second.j0 k a0 a1 128 191)) = some r := h
  clear h
  have HC3 := Aside0.mk H
  clear H
  go_enter Try.func55, Try.ntmps55
  go_upto_if 8 with (fail)
  go_cut [5] (fun v5 wc => ∃ (kq : Nat) (x5_2 : Int), v5 = .int .u8 x5_2 ∧ Aside0 (woodcutref01_second.j0 kq a0 a1 x5_2 191 = some r) ∧ Aside0 (kq ≤ k) ∧ Drawn0 w wc)
  case first =>
    have H := HC3.out
    clear HC3
    by_cases c4 : a0 = 224
    · rw [if_pos c4] at H
      have c4b0 : (a0 == 224) = true := beq_iff_eq.mpr c4
      have c4b1 : (a0 != 224) = false := bne_eq_false_iff_eq.mpr c4
      clear c4
      (first | rw [c4b0] | (simp only [i64_w, i32_w]; rw [c4b0]) | skip)
      have H' := Aside0.mk H
      clear H
      go_wp2
      go_meet
      case rel => exact ⟨_, (160), (by first | rfl | (simp; done) | (simp [*]; done)), H', ⟨by first | omega | exact Nat.le_refl _⟩, by repeat (first | exact Drawn0.refl _ | apply Drawn0.step)⟩
    · rw [if_neg c4] at H
      have c4b0 : (a0 == 224) = false := beq_eq_false_iff_ne.mpr c4
      have c4b1 : (a0 != 224) = true := bne_iff_ne.mpr c4
      (first | rw [c4b0] | (simp only [i64_w, i32_w]; rw [c4b0]) | skip)
      have H' := Aside0.mk H
      clear H
      go_wp2
      go_meet
      case rel => exact ⟨_, (128), (by first | rfl | (simp; done) | (simp [*]; done)), H', ⟨by first | omega | exact Nat.le_refl _⟩, by repeat (first | exact Drawn0.refl _ | apply Drawn0.step)⟩
  case rest =>
    clear HC3
    try clear p2
    try clear c4
    try clear c4b0
    try clear c4b1
    obtain ⟨kq, x5_2, rfl, HA, HJ2, ⟨mc2, rfl⟩⟩ := hcut
    cases kq with
    | zero => exact absurd HA.out (by simp [woodcutref01_second.j0])
    | succ kj2 =>
      have H := HA.out
      clear HA
      simp only [woodcutref01_second.j0] at H
      have HC5 := Aside0.mk H
      clear H
      go_upto_if 10 with (fail)
      go_cut [6] (fun v6 wc => ∃ (kq : Nat) (x6_4 : Int), v6 = .int .u8 x6_4 ∧ Aside0 (woodcutref01_second.j1 kq a0 a1 x5_2 x6_4 = some r) ∧ Aside0 (kq ≤ kj2) ∧ Drawn0 w wc)
      case first =>
        have H := HC5.out
        clear HC5
        by_cases c6 : a0 = 237
        · rw [if_pos c6] at H
          have c6b0 : (a0 == 237) = true := beq_iff_eq.mpr c6
          have c6b1 : (a0 != 237) = false := bne_eq_false_iff_eq.mpr c6
          clear c6
          (first | rw [c6b0] | (simp only [i64_w, i32_w]; rw [c6b0]) | skip)
          have H' := Aside0.mk H
          clear H
          go_wp2
          go_meet
          case rel => exact ⟨_, (159), (by first | rfl | (simp; done) | (simp [*]; done)), H', ⟨by have := HJ2.out; first | omega | exact Nat.le_refl _⟩, by repeat (first | exact Drawn0.refl _ | apply Drawn0.step)⟩
        · rw [if_neg c6] at H
          have c6b0 : (a0 == 237) = false := beq_eq_false_iff_ne.mpr c6
          have c6b1 : (a0 != 237) = true := bne_iff_ne.mpr c6
          (first | rw [c6b0] | (simp only [i64_w, i32_w]; rw [c6b0]) | skip)
          have H' := Aside0.mk H
          clear H
          go_wp2
          go_meet
          case rel => exact ⟨_, (191), (by first | rfl | (simp; done) | (simp [*]; done)), H', ⟨by have := HJ2.out; first | omega | exact Nat.le_refl _⟩, by repeat (first | exact Drawn0.refl _ | apply Drawn0.step)⟩
      case rest =>
        clear HC5
        try clear c2
        try clear p2
        try clear c4
        try clear c4b0
        try clear c4b1
        try clear c5
        try clear c6
        try clear c6b0
        try clear c6b1
        try clear p2
        obtain ⟨kq, x6_4, rfl, HA, HJ4, ⟨mc4, rfl⟩⟩ := hcut
        cases kq with
        | zero => exact absurd HA.out (by simp [woodcutref01_second.j1])
        | succ kj4 =>
          have H := HA.out
          clear HA
          simp only [woodcutref01_second.j1] at H
          by_cases c7 : a0 = 240
          · rw [if_pos c7] at H
            have c7b0 : (a0 == 240) = true := beq_iff_eq.mpr c7
            have c7b1 : (a0 != 240) = false := bne_eq_false_iff_eq.mpr c7
            clear c7
            by_cases c8 : a0 = 244
            · rw [if_pos c8] at H
              have c8b0 : (a0 == 244) = true := beq_iff_eq.mpr c8
              have c8b1 : (a0 != 244) = false := bne_eq_false_iff_eq.mpr c8
              clear c8
              by_cases c9 : a1 ≥ 144
              · rw [if_pos c9] at H
                have c9b0 : decide (144 ≤ a1) = true := decide_eq_true c9
                clear c9
                obtain rfl := Option.some.inj H
                go_wp2
                go_ret
                exact ⟨by first | rfl | (simp; done) | (simp [*]; done), by repeat (first | exact Drawn0.refl _ | apply Drawn0.step)⟩
              · rw [if_neg c9] at H
                have c9b0 : decide (144 ≤ a1) = false := decide_eq_false c9
                clear c9
                obtain rfl := Option.some.inj H
                go_wp2
                go_ret
                exact ⟨by first | rfl | (simp; done) | (simp [*]; done), by repeat (first | exact Drawn0.refl _ | apply Drawn0.step)⟩
            · rw [if_neg c8] at H
              have c8b0 : (a0 == 244) = false := beq_eq_false_iff_ne.mpr c8
              have c8b1 : (a0 != 244) = true := bne_iff_ne.mpr c8
              by_cases c10 : a1 ≥ 144
              · rw [if_pos c10] at H
                have c10b0 : decide (144 ≤ a1) = true := decide_eq_true c10
                clear c10
                obtain rfl := Option.some.inj H
                go_wp2
                go_ret
                exact ⟨by first | rfl | (simp; done) | (simp [*]; done), by repeat (first | exact Drawn0.refl _ | apply Drawn0.step)⟩
              · rw [if_neg c10] at H
                have c10b0 : decide (144 ≤ a1) = false := decide_eq_false c10
                clear c10
                obtain rfl := Option.some.inj H
                go_wp2
                go_ret
                exact ⟨by first | rfl | (simp; done) | (simp [*]; done), by repeat (first | exact Drawn0.refl _ | apply Drawn0.step)⟩
          · rw [if_neg c7] at H
            have c7b0 : (a0 == 240) = false := beq_eq_false_iff_ne.mpr c7
            have c7b1 : (a0 != 240) = true := bne_iff_ne.mpr c7
            by_cases c11 : a0 = 244
            · rw [if_pos c11] at H
              have c11b0 : (a0 == 244) = true := beq_iff_eq.mpr c11
              have c11b1 : (a0 != 244) = false := bne_eq_false_iff_eq.mpr c11
              clear c11
              by_cases c12 : a1 ≥ x5_2
              · rw [if_pos c12] at H
                have c12b0 : decide (x5_2 ≤ a1) = true := decide_eq_true c12
                clear c12
                obtain rfl := Option.some.inj H
                go_wp2
                go_ret
                exact ⟨by first | rfl | (simp; done) | (simp [*]; done), by repeat (first | exact Drawn0.refl _ | apply Drawn0.step)⟩
              · rw [if_neg c12] at H
                have c12b0 : decide (x5_2 ≤ a1) = false := decide_eq_false c12
                clear c12
                obtain rfl := Option.some.inj H
                go_wp2
                go_ret
                exact ⟨by first | rfl | (simp; done) | (simp [*]; done), by repeat (first | exact Drawn0.refl _ | apply Drawn0.step)⟩
            · rw [if_neg c11] at H
              have c11b0 : (a0 == 244) = false := beq_eq_false_iff_ne.mpr c11
              have c11b1 : (a0 != 244) = true := bne_iff_ne.mpr c11
              by_cases c13 : a1 ≥ x5_2
              · rw [if_pos c13] at H
                have c13b0 : decide (x5_2 ≤ a1) = true := decide_eq_true c13
                clear c13
                obtain rfl := Option.some.inj H
                go_wp2
                go_ret
                exact ⟨by first | rfl | (simp; done) | (simp [*]; done), by repeat (first | exact Drawn0.refl _ | apply Drawn0.step)⟩
              · rw [if_neg c13] at H
                have c13b0 : decide (x5_2 ≤ a1) = false := decide_eq_false c13
                clear c13
                obtain rfl := Option.some.inj H
                go_wp2
                go_ret
                exact ⟨by first | rfl | (simp; done) | (simp [*]; done), by repeat (first | exact Drawn0.refl _ | apply Drawn0.step)⟩

end Go.Proofs.Ytccadgnbomgpcaa.Tx
