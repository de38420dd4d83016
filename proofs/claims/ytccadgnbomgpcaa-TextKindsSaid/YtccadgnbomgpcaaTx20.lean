-- Written by a program of this session (wip/inj.py) over the kit's own print; Lean checks it.
import Derived.Test.YtccadgnbomgpcaaTx0
import Derived.Test.YtccadgnbomgpcaaTx19
namespace Go.Proofs.Ytccadgnbomgpcaa.Tx
open Go.RowKit Go.Proofs.YtccadgnbomgpcaaW.PrintWords Go.Proofs.YtccadgnbomgpcaaW.PrintLast Go.Proofs.YtccadgnbomgpcaaW.PrintMore
attribute [local go_sem] max2_int min2_int max_two min_two max_three min_three max_four min_four   -- for this text's walks alone
set_option linter.unusedVariables false
set_option linter.unusedSimpArgs false

/-! ### text_one: function 47 -/
def text_one.l0 : Nat → List Int → Int → Int → Int → Int → Int → Option (Int × Int)
  | 0, _, _, _, _, _, _ => none
  | k + 1, x0, x4, x5, x6, x7, x8 => if x8 ≤ x4 then (if x8 ≥ (x0.length : Int) then (some (65533, x8)) else (if 0 ≤ x8 then (if x8 < (x0.length : Int) then (if (rd x0 x8) < x5 then (some (65533, x8)) else (if (rd x0 x8) > x6 then (some (65533, x8)) else (text_one.l0 k x0 x4 128 191 (Go.bits .or .i32 (wrap32 (x7 * 64)) (wrap32 (Go.bits .and .u8 (rd x0 x8) 63))) (wrap64 (x8 + 1))))) else (none)) else (none))) else (some (x7, wrap64 (x4 + 1)))
def text_one.f (k : Nat) (l0 : List Int) : Option (Int × Int) := if 0 < (l0.length : Int) then (if (rd l0 0) < 128 then (some (wrap32 (rd l0 0), 1)) else ((text_need.f k (rd l0 0)).bind fun bt285 => (if bt285.1 = 0 then (some (65533, 1)) else (if 0 ≤ bt285.1 then (text_one.l0 k l0 bt285.1 bt285.2.1 bt285.2.2 (Go.bits .and .i32 (wrap32 (rd l0 0)) (shr .i32 63 bt285.1)) 1) else (none))))) else (none)
theorem text_one.mono_l : ∀ k, (∀ y0 y1 y2 y3 y4 y5, LeO (text_one.l0 k y0 y1 y2 y3 y4 y5) (text_one.l0 (k + 1) y0 y1 y2 y3 y4 y5))
  | 0 => fun _ _ _ _ _ _ r h => by simp [text_one.l0] at h
  | k + 1 => by
    have ih0 := text_one.mono_l k
    · intro y0 y1 y2 y3 y4 y5
      unfold text_one.l0
      repeat' first
      | (with_reducible exact ih0 _ _ _ _ _ _)
      | (with_reducible exact text_need.mono _ _)
      | (with_reducible exact LeO.refl _)
      | (with_reducible exact LeO.none _)
      | (with_reducible refine LeO.ite ?_ ?_)
      | (with_reducible refine LeO.bind ?_ (fun _ => ?_))
      | exact ih0 _ _ _ _ _ _
      | exact text_need.mono _ _
      | exact LeO.none _
      | refine LeO.ite ?_ ?_
      | refine LeO.bind ?_ (fun _ => ?_)
theorem text_one.mono : ∀ a0 k, LeO (text_one.f k a0) (text_one.f (k + 1) a0) := by
  intro a0 k
  have ih0 := text_one.mono_l k
  unfold text_one.f
  repeat' first
      | (with_reducible exact ih0 _ _ _ _ _ _)
      | (with_reducible exact text_need.mono _ _)
      | (with_reducible exact LeO.refl _)
      | (with_reducible exact LeO.none _)
      | (with_reducible refine LeO.ite ?_ ?_)
      | (with_reducible refine LeO.bind ?_ (fun _ => ?_))
      | exact ih0 _ _ _ _ _ _
      | exact text_need.mono _ _
      | exact LeO.none _
      | refine LeO.ite ?_ ?_
      | refine LeO.bind ?_ (fun _ => ?_)
set_option maxHeartbeats 8000000 in
set_option maxRecDepth 100000 in
theorem text_one.calls (k : Nat) (A0 : Option Addr) (c0 : Nat) (l0 : List Int) (r1 : Int) (r2 : Int) (w : World) (hr0 : Kd.C (Kd.int .u8) w A0 l0.length l0) (hc0 : l0.length ≤ c0) (h : text_one.f k l0 = some (r1, r2)) :
    Calls Try.prog 47 #[.slice A0 l0.length c0] w fun e w' => e = .returned (.tuple #[.int .i32 r1, .int .i64 r2]) ∧ Drawn0 w w' := by
  have HR0 := Aside0.mk hr0
  have HC0 := Aside0.mk hc0
  clear hr0 hc0
  have H : (if 0 < (l0.length : Int) then (if (rd l0 0) < 128 then (some (wrap32 (rd l0 0), 1)) else ((text_need.f k (rd l0 0)).bind fun bt285 => (if bt285.1 = 0 then (some (65533, 1)) else (if 0 ≤ bt285.1 then (text_one.l0 k l0 bt285.1 bt285.2.1 bt285.2.2 (Go.bits .and .i32 (wrap32 (rd l0 0)) (shr .i32 63 bt285.1)) 1) else (none))))) else (none)) = some (r1, r2) := h
  clear h
  by_cases c2 : 0 < (l0.length : Int)
  · rw [if_pos c2] at H
    have c2b0 : decide (0 < (l0.length : Int)) = true := decide_eq_true c2
    have c2b1 : decide (0 < l0.length) = true := decide_eq_true (by omega)
    clear c2
    by_cases c3 : (rd l0 0) < 128
    · rw [if_pos c3] at H
      have c3b0 : decide ((rd l0 0) < 128) = true := decide_eq_true c3
      clear c3
      simp only [Option.some.injEq, Prod.mk.injEq] at H
      obtain ⟨rfl, rfl⟩ := H
      have p282 : 0 ≤ (0 : Int) := (by omega)
      have q282 : 0 < (l0.length : Int) := of_decide_eq_true (by first | (with_reducible assumption) | assumption)
      obtain ⟨ad282, e282, hx282_0⟩ := Kd.at_int HR0.out 0 p282 q282
      cases e282
      have qi282 : (0 < l0.length) = True := eq_true (by omega)
      (try rw [show ((0 : Int)).toNat = 0 from rfl] at hx282_0)
      (try rw [Addr.add_zero'] at hx282_0)
      replace p282 := eq_true p282
      replace q282 := eq_true q282
      have p283 : 0 ≤ (0 : Int) := (by omega)
      have q283 : 0 < (l0.length : Int) := of_decide_eq_true (by first | (with_reducible assumption) | assumption)
      obtain ⟨ad283, e283, hx283_0⟩ := Kd.at_int HR0.out 0 p283 q283
      obtain rfl : ad282 = ad283 := (by injection e283)
      have qi283 : (0 < l0.length) = True := eq_true (by omega)
      (try rw [show ((0 : Int)).toNat = 0 from rfl] at hx283_0)
      (try rw [Addr.add_zero'] at hx283_0)
      replace p283 := eq_true p283
      replace q283 := eq_true q283
      go_enter Try.func47, Try.ntmps47
      go_wp2
      repeat (go_quiet (fail); try go_wp2)
      go_ret2
      exact ⟨by first | rfl | (simp; done) | (simp [*]; done), by repeat (first | exact Drawn0.refl _ | apply Drawn0.step)⟩
    · rw [if_neg c3] at H
      have c3b0 : decide ((rd l0 0) < 128) = false := decide_eq_false c3
      clear c3
      replace H := Option.bind_eq_some_iff.mp H
      obtain ⟨⟨t285, t286, t287⟩, A40, H⟩ := H
      replace H : (if t285 = 0 then (some (65533, 1)) else (if 0 ≤ t285 then (text_one.l0 k l0 t285 t286 t287 (Go.bits .and .i32 (wrap32 (rd l0 0)) (shr .i32 63 t285)) 1) else (none))) = some (r1, r2) := H
      have A4 := Aside0.mk A40
      clear A40
      by_cases c5 : t285 = 0
      · rw [if_pos c5] at H
        have c5b0 : (t285 == 0) = true := beq_iff_eq.mpr c5
        have c5b1 : (t285 != 0) = false := bne_eq_false_iff_eq.mpr c5
        clear c5
        simp only [Option.some.injEq, Prod.mk.injEq] at H
        obtain ⟨rfl, rfl⟩ := H
        have p282 : 0 ≤ (0 : Int) := (by omega)
        have q282 : 0 < (l0.length : Int) := of_decide_eq_true (by first | (with_reducible assumption) | assumption)
        obtain ⟨ad282, e282, hx282_0⟩ := Kd.at_int HR0.out 0 p282 q282
        cases e282
        have qi282 : (0 < l0.length) = True := eq_true (by omega)
        (try rw [show ((0 : Int)).toNat = 0 from rfl] at hx282_0)
        (try rw [Addr.add_zero'] at hx282_0)
        replace p282 := eq_true p282
        replace q282 := eq_true q282
        have p284 : 0 ≤ (0 : Int) := (by omega)
        have q284 : 0 < (l0.length : Int) := of_decide_eq_true (by first | (with_reducible assumption) | assumption)
        obtain ⟨ad284, e284, hx284_0⟩ := Kd.at_int HR0.out 0 p284 q284
        obtain rfl : ad282 = ad284 := (by injection e284)
        have qi284 : (0 < l0.length) = True := eq_true (by omega)
        (try rw [show ((0 : Int)).toNat = 0 from rfl] at hx284_0)
        (try rw [Addr.add_zero'] at hx284_0)
        replace p284 := eq_true p284
        replace q284 := eq_true q284
        go_enter Try.func47, Try.ntmps47
        go_wp2_with (first | (go_at_call 56; (with_reducible refine (text_need.calls k (rd l0 0) t285 t286 t287 _ A4.out).mono ?_); rintro e w' ⟨rfl, ⟨nd, rfl⟩⟩; (try first | exact ⟨rfl, _, World.drewN_drewN _ _ _⟩ | exact ⟨rfl, _, Eq.trans (World.drewN_drewN _ _ _) (congrArg (World.drewN _) (Nat.add_assoc _ _ _))⟩)))
        repeat (go_quiet (first | (go_at_call 56; (with_reducible refine (text_need.calls k (rd l0 0) t285 t286 t287 _ A4.out).mono ?_); rintro e w' ⟨rfl, ⟨nd, rfl⟩⟩; (try first | exact ⟨rfl, _, World.drewN_drewN _ _ _⟩ | exact ⟨rfl, _, Eq.trans (World.drewN_drewN _ _ _) (congrArg (World.drewN _) (Nat.add_assoc _ _ _))⟩))); try go_wp2_with (first | (go_at_call 56; (with_reducible refine (text_need.calls k (rd l0 0) t285 t286 t287 _ A4.out).mono ?_); rintro e w' ⟨rfl, ⟨nd, rfl⟩⟩; (try first | exact ⟨rfl, _, World.drewN_drewN _ _ _⟩ | exact ⟨rfl, _, Eq.trans (World.drewN_drewN _ _ _) (congrArg (World.drewN _) (Nat.add_assoc _ _ _))⟩))))
        go_ret2
        exact ⟨by first | rfl | (simp; done) | (simp [*]; done), by repeat (first | exact Drawn0.refl _ | apply Drawn0.step)⟩
      · rw [if_neg c5] at H
        have c5b0 : (t285 == 0) = false := beq_eq_false_iff_ne.mpr c5
        have c5b1 : (t285 != 0) = true := bne_iff_ne.mpr c5
        by_cases c6 : 0 ≤ t285
        · rw [if_pos c6] at H
          have c6b0 := eq_true c6
          have c6b1 : decide (0 ≤ t285) = true := decide_eq_true c6
          clear c6
          obtain ⟨ji7, hji7⟩ : ∃ j_ : Int, (shr .i32 63 t285) = j_ := ⟨_, rfl⟩
          replace H : (text_one.l0 k l0 t285 t286 t287 (Go.bits .and .i32 (wrap32 (rd l0 0)) (ji7)) 1) = some (r1, r2) := by first | (rw [hji7] at H; exact H) | (simp only [hji7] at H ⊢; exact H)
          (try rw [hji7] at A4)
          have hji7_ : (63 / 2 ^ min t285.toNat 32) = ji7 := hji7
          have hji7z : t285 ≤ 32 → (63 / 2 ^ t285.toNat) = ji7 := shr_small hji7
          have H' := Aside0.mk H
          clear H
          have p282 : 0 ≤ (0 : Int) := (by omega)
          have q282 : 0 < (l0.length : Int) := of_decide_eq_true (by first | (with_reducible assumption) | assumption)
          obtain ⟨ad282, e282, hx282_0⟩ := Kd.at_int HR0.out 0 p282 q282
          cases e282
          have qi282 : (0 < l0.length) = True := eq_true (by omega)
          (try rw [show ((0 : Int)).toNat = 0 from rfl] at hx282_0)
          (try rw [Addr.add_zero'] at hx282_0)
          replace p282 := eq_true p282
          replace q282 := eq_true q282
          have p284 : 0 ≤ (0 : Int) := (by omega)
          have q284 : 0 < (l0.length : Int) := of_decide_eq_true (by first | (with_reducible assumption) | assumption)
          obtain ⟨ad284, e284, hx284_0⟩ := Kd.at_int HR0.out 0 p284 q284
          obtain rfl : ad282 = ad284 := (by injection e284)
          have qi284 : (0 < l0.length) = True := eq_true (by omega)
          (try rw [show ((0 : Int)).toNat = 0 from rfl] at hx284_0)
          (try rw [Addr.add_zero'] at hx284_0)
          replace p284 := eq_true p284
          replace q284 := eq_true q284
          go_enter Try.func47, Try.ntmps47
          go_wp2_with (first | (go_at_call 56; (with_reducible refine (text_need.calls k (rd l0 0) t285 t286 t287 _ A4.out).mono ?_); rintro e w' ⟨rfl, ⟨nd, rfl⟩⟩; (try first | exact ⟨rfl, _, World.drewN_drewN _ _ _⟩ | exact ⟨rfl, _, Eq.trans (World.drewN_drewN _ _ _) (congrArg (World.drewN _) (Nat.add_assoc _ _ _))⟩); have p288 : 0 ≤ (0 : Int) := (by omega); have q288 : 0 < (l0.length : Int) := of_decide_eq_true (by first | (with_reducible assumption) | assumption); obtain ⟨ad288, e288, hx288_0⟩ := Kd.at_int HR0.out 0 p288 q288; obtain rfl : ad282 = ad288 := (by injection e288); have qi288 : (0 < l0.length) = True := eq_true (by omega); (try rw [show ((0 : Int)).toNat = 0 from rfl] at hx288_0); (try rw [Addr.add_zero'] at hx288_0); replace p288 := eq_true p288; replace q288 := eq_true q288))
          repeat (go_quiet (first | (go_at_call 56; (with_reducible refine (text_need.calls k (rd l0 0) t285 t286 t287 _ A4.out).mono ?_); rintro e w' ⟨rfl, ⟨nd, rfl⟩⟩; (try first | exact ⟨rfl, _, World.drewN_drewN _ _ _⟩ | exact ⟨rfl, _, Eq.trans (World.drewN_drewN _ _ _) (congrArg (World.drewN _) (Nat.add_assoc _ _ _))⟩); have p288 : 0 ≤ (0 : Int) := (by omega); have q288 : 0 < (l0.length : Int) := of_decide_eq_true (by first | (with_reducible assumption) | assumption); obtain ⟨ad288, e288, hx288_0⟩ := Kd.at_int HR0.out 0 p288 q288; obtain rfl : ad282 = ad288 := (by injection e288); have qi288 : (0 < l0.length) = True := eq_true (by omega); (try rw [show ((0 : Int)).toNat = 0 from rfl] at hx288_0); (try rw [Addr.add_zero'] at hx288_0); replace p288 := eq_true p288; replace q288 := eq_true q288)); try go_wp2_with (first | (go_at_call 56; (with_reducible refine (text_need.calls k (rd l0 0) t285 t286 t287 _ A4.out).mono ?_); rintro e w' ⟨rfl, ⟨nd, rfl⟩⟩; (try first | exact ⟨rfl, _, World.drewN_drewN _ _ _⟩ | exact ⟨rfl, _, Eq.trans (World.drewN_drewN _ _ _) (congrArg (World.drewN _) (Nat.add_assoc _ _ _))⟩); have p288 : 0 ≤ (0 : Int) := (by omega); have q288 : 0 < (l0.length : Int) := of_decide_eq_true (by first | (with_reducible assumption) | assumption); obtain ⟨ad288, e288, hx288_0⟩ := Kd.at_int HR0.out 0 p288 q288; obtain rfl : ad282 = ad288 := (by injection e288); have qi288 : (0 < l0.length) = True := eq_true (by omega); (try rw [show ((0 : Int)).toNat = 0 from rfl] at hx288_0); (try rw [Addr.add_zero'] at hx288_0); replace p288 := eq_true p288; replace q288 := eq_true q288)))
          go_loopg [5, 6, 7, 8] k (fun kq v5 v6 v7 v8 w' => ∃ (x5_1 : Int) (x6_1 : Int) (x7_1 : Int) (x8_1 : Int), v5 = .int .u8 x5_1 ∧ v6 = .int .u8 x6_1 ∧ v7 = .int .i32 x7_1 ∧ v8 = .int .i64 x8_1 ∧ Aside0 (text_one.l0 kq l0 t285 x5_1 x6_1 x7_1 x8_1 = some (r1, r2)) ∧ Aside0 (kq ≤ k) ∧ Drawn0 w w')
          case atStart => exact ⟨(t286), (t287), (Go.bits .and .i32 (wrap32 (rd l0 0)) (ji7)), (1), (by first | rfl | (simp; done) | (simp [*]; done)), (by first | rfl | (simp; done) | (simp [*]; done)), (by first | rfl | (simp; done) | (simp only [← hji7] <;> (first | rfl | simp)) | (simp [*]; done)), (by first | rfl | (simp; done) | (simp [*]; done)), H', ⟨Nat.le_refl _⟩, by repeat (first | exact Drawn0.refl _ | apply Drawn0.step)⟩
          case round =>
            clear H'
            try clear c2
            try clear c2b0
            try clear c2b1
            try clear p2
            try clear q2
            try clear hx2
            try clear qi2
            try clear c3
            try clear c3b0
            try clear p3
            try clear c4
            try clear c5
            try clear c5b0
            try clear c5b1
            try clear c6
            try clear c6b0
            try clear c6b1
            try clear hx282_0
            try clear hx283_0
            try clear hx284_0
            try clear hx288_0
            try clear p282
            try clear p283
            try clear p284
            try clear p288
            try clear q282
            try clear q283
            try clear q284
            try clear q288
            obtain ⟨x5_1, x6_1, x7_1, x8_1, rfl, rfl, rfl, rfl, HA, HK1, ⟨m1, rfl⟩⟩ := hrel
            cases gk with
            | zero => exact absurd HA.out (by simp [text_one.l0])
            | succ k1 =>
              have H := HA.out
              clear HA
              simp only [text_one.l0] at H
              by_cases c8 : x8_1 ≤ t285
              · rw [if_pos c8] at H
                have c8b0 : decide (x8_1 ≤ t285) = true := decide_eq_true c8
                clear c8
                by_cases c9 : x8_1 ≥ (l0.length : Int)
                · rw [if_pos c9] at H
                  have c9b0 : decide ((l0.length : Int) ≤ x8_1) = true := decide_eq_true c9
                  clear c9
                  simp only [Option.some.injEq, Prod.mk.injEq] at H
                  obtain ⟨rfl, rfl⟩ := H
                  go_wp2
                  repeat (go_quiet (fail); try go_wp2)
                  go_ret2
                  exact ⟨by first | rfl | (simp; done) | (simp only [← hji7] <;> (first | rfl | simp)) | (simp [*]; done), by repeat (first | exact Drawn0.refl _ | apply Drawn0.step)⟩
                · rw [if_neg c9] at H
                  have c9b0 : decide ((l0.length : Int) ≤ x8_1) = false := decide_eq_false c9
                  clear c9
                  by_cases c10 : 0 ≤ x8_1
                  · rw [if_pos c10] at H
                    have c10b0 : decide (0 ≤ x8_1) = true := decide_eq_true c10
                    clear c10
                    by_cases c11 : x8_1 < (l0.length : Int)
                    · rw [if_pos c11] at H
                      have c11b0 : decide (x8_1 < (l0.length : Int)) = true := decide_eq_true c11
                      clear c11
                      by_cases c12 : (rd l0 x8_1) < x5_1
                      · rw [if_pos c12] at H
                        have c12b0 : decide ((rd l0 x8_1) < x5_1) = true := decide_eq_true c12
                        clear c12
                        simp only [Option.some.injEq, Prod.mk.injEq] at H
                        obtain ⟨rfl, rfl⟩ := H
                        have p289 : 0 ≤ (x8_1 : Int) := of_decide_eq_true (by first | (with_reducible assumption) | assumption)
                        have q289 : x8_1 < (l0.length : Int) := of_decide_eq_true (by first | (with_reducible assumption) | assumption)
                        obtain ⟨ad289, e289, hx289_0⟩ := Kd.at_int HR0.out x8_1 p289 q289
                        obtain rfl : ad282 = ad289 := (by injection e289)
                        replace p289 := eq_true p289
                        replace q289 := eq_true q289
                        go_wp2
                        repeat (go_quiet (fail); try go_wp2)
                        go_ret2
                        exact ⟨by first | rfl | (simp; done) | (simp only [← hji7] <;> (first | rfl | simp)) | (simp [*]; done), by repeat (first | exact Drawn0.refl _ | apply Drawn0.step)⟩
                      · rw [if_neg c12] at H
                        have c12b0 : decide ((rd l0 x8_1) < x5_1) = false := decide_eq_false c12
                        clear c12
                        by_cases c13 : (rd l0 x8_1) > x6_1
                        · rw [if_pos c13] at H
                          have c13b0 : decide (x6_1 < (rd l0 x8_1)) = true := decide_eq_true c13
                          clear c13
                          simp only [Option.some.injEq, Prod.mk.injEq] at H
                          obtain ⟨rfl, rfl⟩ := H
                          have p289 : 0 ≤ (x8_1 : Int) := of_decide_eq_true (by first | (with_reducible assumption) | assumption)
                          have q289 : x8_1 < (l0.length : Int) := of_decide_eq_true (by first | (with_reducible assumption) | assumption)
                          obtain ⟨ad289, e289, hx289_0⟩ := Kd.at_int HR0.out x8_1 p289 q289
                          obtain rfl : ad282 = ad289 := (by injection e289)
                          replace p289 := eq_true p289
                          replace q289 := eq_true q289
                          have p290 : 0 ≤ (x8_1 : Int) := of_decide_eq_true (by first | (with_reducible assumption) | assumption)
                          have q290 : x8_1 < (l0.length : Int) := of_decide_eq_true (by first | (with_reducible assumption) | assumption)
                          obtain ⟨ad290, e290, hx290_0⟩ := Kd.at_int HR0.out x8_1 p290 q290
                          obtain rfl : ad282 = ad290 := (by injection e290)
                          replace p290 := eq_true p290
                          replace q290 := eq_true q290
                          go_wp2
                          repeat (go_quiet (fail); try go_wp2)
                          go_ret2
                          exact ⟨by first | rfl | (simp; done) | (simp only [← hji7] <;> (first | rfl | simp)) | (simp [*]; done), by repeat (first | exact Drawn0.refl _ | apply Drawn0.step)⟩
                        · rw [if_neg c13] at H
                          have c13b0 : decide (x6_1 < (rd l0 x8_1)) = false := decide_eq_false c13
                          clear c13
                          have H' := Aside0.mk H
                          clear H
                          have p289 : 0 ≤ (x8_1 : Int) := of_decide_eq_true (by first | (with_reducible assumption) | assumption)
                          have q289 : x8_1 < (l0.length : Int) := of_decide_eq_true (by first | (with_reducible assumption) | assumption)
                          obtain ⟨ad289, e289, hx289_0⟩ := Kd.at_int HR0.out x8_1 p289 q289
                          obtain rfl : ad282 = ad289 := (by injection e289)
                          replace p289 := eq_true p289
                          replace q289 := eq_true q289
                          have p290 : 0 ≤ (x8_1 : Int) := of_decide_eq_true (by first | (with_reducible assumption) | assumption)
                          have q290 : x8_1 < (l0.length : Int) := of_decide_eq_true (by first | (with_reducible assumption) | assumption)
                          obtain ⟨ad290, e290, hx290_0⟩ := Kd.at_int HR0.out x8_1 p290 q290
                          obtain rfl : ad282 = ad290 := (by injection e290)
                          replace p290 := eq_true p290
                          replace q290 := eq_true q290
                          have p291 : 0 ≤ (x8_1 : Int) := of_decide_eq_true (by first | (with_reducible assumption) | assumption)
                          have q291 : x8_1 < (l0.length : Int) := of_decide_eq_true (by first | (with_reducible assumption) | assumption)
                          obtain ⟨ad291, e291, hx291_0⟩ := Kd.at_int HR0.out x8_1 p291 q291
                          obtain rfl : ad282 = ad291 := (by injection e291)
                          replace p291 := eq_true p291
                          replace q291 := eq_true q291
                          go_wp2
                          repeat (go_quiet (fail); try go_wp2)
                          go_roundg k1
                          case measure => have := HK1.out; omega
                          case rel => exact ⟨(128), (191), (Go.bits .or .i32 (wrap32 (x7_1 * 64)) (wrap32 (Go.bits .and .u8 (rd l0 x8_1) 63))), (wrap64 (x8_1 + 1)), (by first | rfl | (simp; done) | (simp [*]; done)), (by first | rfl | (simp; done) | (simp [*]; done)), (by first | rfl | (simp; done) | (simp [*]; done)), (by first | rfl | (simp; done) | (simp [*]; done)), H', ⟨by have := HK1.out; omega⟩, by repeat (first | exact Drawn0.refl _ | apply Drawn0.step)⟩
                    · rw [if_neg c11] at H
                      exact absurd H (by simp)
                  · rw [if_neg c10] at H
                    exact absurd H (by simp)
              · rw [if_neg c8] at H
                have c8b0 : decide (x8_1 ≤ t285) = false := decide_eq_false c8
                clear c8
                simp only [Option.some.injEq, Prod.mk.injEq] at H
                obtain ⟨rfl, rfl⟩ := H
                go_wp2
                repeat (go_quiet (fail); try go_wp2)
                go_ret2
                exact ⟨by first | rfl | (simp; done) | (simp only [← hji7] <;> (first | rfl | simp)) | (simp [*]; done), by repeat (first | exact Drawn0.refl _ | apply Drawn0.step)⟩
        · rw [if_neg c6] at H
          exact absurd H (by simp)
  · rw [if_neg c2] at H
    exact absurd H (by simp)

end Go.Proofs.Ytccadgnbomgpcaa.Tx
