-- Written by a program of this session (wip/inj.py) over the kit's own print; Lean checks it.
import Derived.Test.YtccadgnbomgpcaaTx0
namespace Go.Proofs.Ytccadgnbomgpcaa.Tx
open Go.RowKit Go.Proofs.YtccadgnbomgpcaaW.PrintWords Go.Proofs.YtccadgnbomgpcaaW.PrintLast Go.Proofs.YtccadgnbomgpcaaW.PrintMore
attribute [local go_sem] max2_int min2_int max_two min_two max_three min_three max_four min_four   -- for this text's walks alone
set_option linter.unusedVariables false
set_option linter.unusedSimpArgs false

/-! ### woodcutref01_Bytes: function 30 -/
mutual
def woodcutref01_Bytes.j0 : Nat → Int → Bool → Option (List Int)
  | 0, _, _ => none
  | k + 1, x3, x19 => if x19 = true then (woodcutref01_Bytes.j1 k 65533) else (woodcutref01_Bytes.j1 k x3)
def woodcutref01_Bytes.j1 : Nat → Int → Option (List Int)
  | 0, _ => none
  | k + 1, x3 => if x3 < 128 then (some (([(x3) % 256] : List Int))) else (if x3 < 2048 then (some (([(wrap64 (192 + (wrap64 (Int.tdiv x3 64)))) % 256, (wrap64 (128 + (Int.tmod x3 64))) % 256] : List Int))) else (if x3 < 65536 then (some (([(wrap64 (224 + (wrap64 (Int.tdiv x3 4096)))) % 256, (wrap64 (128 + (Int.tmod (wrap64 (Int.tdiv x3 64)) 64))) % 256, (wrap64 (128 + (Int.tmod x3 64))) % 256] : List Int))) else (some (([(wrap64 (240 + (wrap64 (Int.tdiv x3 262144)))) % 256, (wrap64 (128 + (Int.tmod (wrap64 (Int.tdiv x3 4096)) 64))) % 256, (wrap64 (128 + (Int.tmod (wrap64 (Int.tdiv x3 64)) 64))) % 256, (wrap64 (128 + (Int.tmod x3 64))) % 256] : List Int)))))
end
def woodcutref01_Bytes.f (k : Nat) (a0 : Int) : Option (List Int) := if (wrap64 (a0)) < 0 then (woodcutref01_Bytes.j0 k (wrap64 (a0)) true) else (if (wrap64 (a0)) > 1114111 then (woodcutref01_Bytes.j0 k (wrap64 (a0)) true) else (if (wrap64 (a0)) ≥ 55296 then (woodcutref01_Bytes.j0 k (wrap64 (a0)) (decide ((wrap64 (a0)) ≤ 57343))) else (woodcutref01_Bytes.j0 k (wrap64 (a0)) false)))
theorem woodcutref01_Bytes.mono_l : ∀ k, (∀ y0 y1, LeO (woodcutref01_Bytes.j0 k y0 y1) (woodcutref01_Bytes.j0 (k + 1) y0 y1)) ∧ (∀ y0, LeO (woodcutref01_Bytes.j1 k y0) (woodcutref01_Bytes.j1 (k + 1) y0))
  | 0 => ⟨fun _ _ r h => by simp [woodcutref01_Bytes.j0] at h, fun _ r h => by simp [woodcutref01_Bytes.j1] at h⟩
  | k + 1 => by
    obtain ⟨ih0, ih1⟩ := woodcutref01_Bytes.mono_l k
    refine ⟨?_, ?_⟩
    · intro y0 y1
      unfold woodcutref01_Bytes.j0
      repeat' first
      | (with_reducible exact ih0 _ _)
      | (with_reducible exact ih1 _)
      | (with_reducible exact LeO.refl _)
      | (with_reducible exact LeO.none _)
      | (with_reducible refine LeO.ite ?_ ?_)
      | (with_reducible refine LeO.bind ?_ (fun _ => ?_))
      | exact ih0 _ _
      | exact ih1 _
      | exact LeO.none _
      | refine LeO.ite ?_ ?_
      | refine LeO.bind ?_ (fun _ => ?_)
    · intro y0
      unfold woodcutref01_Bytes.j1
      repeat' first
      | (with_reducible exact ih0 _ _)
      | (with_reducible exact ih1 _)
      | (with_reducible exact LeO.refl _)
      | (with_reducible exact LeO.none _)
      | (with_reducible refine LeO.ite ?_ ?_)
      | (with_reducible refine LeO.bind ?_ (fun _ => ?_))
      | exact ih0 _ _
      | exact ih1 _
      | exact LeO.none _
      | refine LeO.ite ?_ ?_
      | refine LeO.bind ?_ (fun _ => ?_)
theorem woodcutref01_Bytes.mono : ∀ a0 k, LeO (woodcutref01_Bytes.f k a0) (woodcutref01_Bytes.f (k + 1) a0) := by
  intro a0 k
  obtain ⟨ih0, ih1⟩ := woodcutref01_Bytes.mono_l k
  unfold woodcutref01_Bytes.f
  repeat' first
      | (with_reducible exact ih0 _ _)
      | (with_reducible exact ih1 _)
      | (with_reducible exact LeO.refl _)
      | (with_reducible exact LeO.none _)
      | (with_reducible refine LeO.ite ?_ ?_)
      | (with_reducible refine LeO.bind ?_ (fun _ => ?_))
      | exact ih0 _ _
      | exact ih1 _
      | exact LeO.none _
      | refine LeO.ite ?_ ?_
      | refine LeO.bind ?_ (fun _ => ?_)
set_option maxHeartbeats 8000000 in
set_option maxRecDepth 100000 in
theorem woodcutref01_Bytes.calls (k : Nat) (a0 : Int) (r : List Int) (w : World) (h : woodcutref01_Bytes.f k a0 = some r) :
    Calls Try.prog 30 #[.int .i32 a0] w fun e w' => ∃ v0_ : Value, e = .returned (v0_) ∧ Kd.R (Kd.int .u8) 5 w' w.heap.size (fun _ => True) v0_ r ∧ Below w.heap.size w w' := by
  have HB := Aside0.mk (Below.refl w.heap.size w)
  have H : (if (wrap64 (a0)) < 0 then (woodcutref01_Bytes.j0 k (wrap64 (a0)) true) else (if (wrap64 (a0)) > 1114111 then (woodcutref01_Bytes.j0 k (wrap64 (a0)) true) else (if (wrap64 (a0)) ≥ 55296 then (woodcutref01_Bytes.j0 k (wrap64 (a0)) (decide ((wrap64 (a0)) ≤ 57343))) else (woodcutref01_Bytes.j0 k (wrap64 (a0)) false)))) = some r := h
  clear h
  have HC2 := Aside0.mk H
  clear H
  go_enter Try.func30, Try.ntmps30
  go_upto_region 2 with (fail)
  go_cut [19] (fun v19 wc => ∃ (kq : Nat) (x19_1 : Bool), v19 = .bool x19_1 ∧ Aside0 (woodcutref01_Bytes.j0 kq (wrap64 (a0)) x19_1 = some r) ∧ Aside0 (kq ≤ k) ∧ Aside0 (Below w.heap.size w wc))
  case first =>
    have H := HC2.out
    clear HC2
    by_cases c3 : (wrap64 (a0)) < 0
    · rw [if_pos c3] at H
      have c3b0 : decide ((wrap64 (a0)) < 0) = true := decide_eq_true c3
      clear c3
      (first | rw [c3b0] | (simp only [i64_w, i32_w]; rw [c3b0]) | skip)
      have H' := Aside0.mk H
      clear H
      go_wp2
      go_meet
      case rel => exact ⟨_, (true), (by first | rfl | (simp; done) | (simp [*]; done)), H', ⟨by first | omega | exact Nat.le_refl _⟩, ⟨by repeat (first | (with_reducible first | exact HB.out | apply below_alloc | apply pw_below_drewN | apply below_drew1) | exact HB.out)⟩⟩
    · rw [if_neg c3] at H
      have c3b0 : decide ((wrap64 (a0)) < 0) = false := decide_eq_false c3
      clear c3
      (first | rw [c3b0] | (simp only [i64_w, i32_w]; rw [c3b0]) | skip)
      by_cases c4 : (wrap64 (a0)) > 1114111
      · rw [if_pos c4] at H
        have c4b0 : decide (1114111 < (wrap64 (a0))) = true := decide_eq_true c4
        clear c4
        have H' := Aside0.mk H
        clear H
        go_wp2
        go_meet
        case rel => exact ⟨_, (true), (by first | rfl | (simp; done) | (simp [*]; done)), H', ⟨by first | omega | exact Nat.le_refl _⟩, ⟨by repeat (first | (with_reducible first | exact HB.out | apply below_alloc | apply pw_below_drewN | apply below_drew1) | exact HB.out)⟩⟩
      · rw [if_neg c4] at H
        have c4b0 : decide (1114111 < (wrap64 (a0))) = false := decide_eq_false c4
        clear c4
        by_cases c5 : (wrap64 (a0)) ≥ 55296
        · rw [if_pos c5] at H
          have c5b0 : decide (55296 ≤ (wrap64 (a0))) = true := decide_eq_true c5
          clear c5
          have H' := Aside0.mk H
          clear H
          go_wp2
          go_meet
          case rel => exact ⟨_, (decide ((wrap64 (a0)) ≤ 57343)), (by first | rfl | (simp; done) | (simp [*]; done)), H', ⟨by first | omega | exact Nat.le_refl _⟩, ⟨by repeat (first | (with_reducible first | exact HB.out | apply below_alloc | apply pw_below_drewN | apply below_drew1) | exact HB.out)⟩⟩
        · rw [if_neg c5] at H
          have c5b0 : decide (55296 ≤ (wrap64 (a0))) = false := decide_eq_false c5
          clear c5
          have H' := Aside0.mk H
          clear H
          go_wp2
          go_meet
          case rel => exact ⟨_, (false), (by first | rfl | (simp; done) | (simp [*]; done)), H', ⟨by first | omega | exact Nat.le_refl _⟩, ⟨by repeat (first | (with_reducible first | exact HB.out | apply below_alloc | apply pw_below_drewN | apply below_drew1) | exact HB.out)⟩⟩
  case rest =>
    clear HC2
    try clear p2
    try clear c3
    try clear c3b0
    try clear c4
    try clear c4b0
    try clear c5
    try clear c5b0
    obtain ⟨kq, x19_1, rfl, HA, HJ1, HB⟩ := hcut
    cases kq with
    | zero => exact absurd HA.out (by simp [woodcutref01_Bytes.j0])
    | succ kj1 =>
      have H := HA.out
      clear HA
      simp only [woodcutref01_Bytes.j0] at H
      have HC6 := Aside0.mk H
      clear H
      go_upto_if 19 with (fail)
      go_cut [3] (fun v3 wc => ∃ (kq : Nat) (x3_5 : Int), v3 = .int .i64 x3_5 ∧ Aside0 (woodcutref01_Bytes.j1 kq x3_5 = some r) ∧ Aside0 (kq ≤ kj1) ∧ Aside0 (Below w.heap.size w wc))
      case first =>
        have H := HC6.out
        clear HC6
        by_cases c7 : x19_1 = true
        · subst c7
          have H1 : (woodcutref01_Bytes.j1 kj1 65533) = some r := by rw [if_pos rfl] at H; exact H
          clear H
          have H := H1
          clear H1
          have H' := Aside0.mk H
          clear H
          go_wp2
          go_meet
          case rel => exact ⟨_, (65533), (by first | rfl | (simp; done) | (simp [*]; done)), H', ⟨by have := HJ1.out; first | omega | exact Nat.le_refl _⟩, ⟨by repeat (first | (with_reducible first | exact HB.out | apply below_alloc | apply pw_below_drewN | apply below_drew1) | exact HB.out)⟩⟩
        · replace c7 := Bool.eq_false_iff.mpr c7
          subst c7
          have H1 : (woodcutref01_Bytes.j1 kj1 (wrap64 (a0))) = some r := by rw [if_neg (show ¬ (false = true) by decide)] at H; exact H
          clear H
          have H := H1
          clear H1
          have H' := Aside0.mk H
          clear H
          go_wp2
          go_meet
          case rel => exact ⟨_, ((wrap64 (a0))), (by first | rfl | (simp; done) | (simp [*]; done)), H', ⟨by have := HJ1.out; first | omega | exact Nat.le_refl _⟩, ⟨by repeat (first | (with_reducible first | exact HB.out | apply below_alloc | apply pw_below_drewN | apply below_drew1) | exact HB.out)⟩⟩
      case rest =>
        clear HC6
        try clear p2
        try clear c3
        try clear c3b0
        try clear c4
        try clear c4b0
        try clear c5
        try clear c5b0
        try clear p6
        try clear c7
        try clear p2
        obtain ⟨kq, x3_5, rfl, HA, HJ5, HB⟩ := hcut
        cases kq with
        | zero => exact absurd HA.out (by simp [woodcutref01_Bytes.j1])
        | succ kj5 =>
          have H := HA.out
          clear HA
          simp only [woodcutref01_Bytes.j1] at H
          by_cases c8 : x3_5 < 128
          · rw [if_pos c8] at H
            have c8b0 : decide (x3_5 < 128) = true := decide_eq_true c8
            clear c8
            obtain ⟨y298, hy298⟩ : ∃ y_ : List Int, y_ = (([(x3_5) % 256] : List Int)) := ⟨_, rfl⟩
            replace H : (some y298) = some r := by first | (rw [hy298]; with_reducible exact H) | (have H2_ := (Option.bind_some _ _).symm.trans H; rw [hy298]; with_reducible exact H2_) | (have H2_ := (Option.bind_some _ _).symm.trans H; with_reducible exact H2_) | with_reducible exact H | (rw [hy298]; exact H) | exact H
            have Ny298 := Aside0.mk hy298
            clear hy298
            obtain rfl := Option.some.inj H
            go_wp2_with (first | ((with_reducible refine gate_dst (N := 24) rfl ?_); refine Kd.R_lit (Kd.int .u8) _ 5 ?hg (N := 24) ?hd (xs := ([(x3_5) % 256] : List Int)) (inner := [.int .u8 ((x3_5) % 256)]) (ok := fun _ => True) (okp := fun _ => True) ?hr ?hp (fun _ hk => hk) trivial (Below.refl _ _) (Nat.le_refl _) (by simp) ?_; (case hd => rfl); (case hg => rfl); (case hr => first | (go_simp; done) | (go_simp; rfl)); (case hp => exact (Reps.one (show Kd.M (Kd.int .u8) _ _ _ ((x3_5) % 256) [.int .u8 ((x3_5) % 256)] from rfl) (Reps.none _ _))); intro v299 w9 ho10 hb hg_ hnew_; clear hg_ hnew_; (first | rw [← Ny298.out] at ho10 | (simp only [Int.reduceToNat] at ho10; rw [← Ny298.out] at ho10)); have n0_ := Aside0.mk (Kd.R_lower ho10 (below_size (by repeat (first | (with_reducible first | exact HB.out | apply below_alloc | apply pw_below_drewN | apply below_drew1) | exact HB.out)))); have n1_ := Aside0.mk (below_step (by repeat (first | (with_reducible first | exact HB.out | apply below_alloc | apply pw_below_drewN | apply below_drew1) | exact HB.out)) hb); clear HB; have HO300 := n0_; have HB := n1_; clear n0_ n1_; clear hb ho10))
            go_ret
            exact ⟨_, by first | rfl | (simp [errW_none, errW_some] <;> rfl) | (simp [*, errW_none, errW_some] <;> rfl), by (with_reducible repeat (first | apply Kd.R_alloc | apply Kd.R_drewN | apply Kd.R_drew)); exact HO300.out, by repeat (first | (with_reducible first | exact HB.out | apply below_alloc | apply pw_below_drewN | apply below_drew1) | exact HB.out)⟩
          · rw [if_neg c8] at H
            have c8b0 : decide (x3_5 < 128) = false := decide_eq_false c8
            clear c8
            by_cases c11 : x3_5 < 2048
            · rw [if_pos c11] at H
              have c11b0 : decide (x3_5 < 2048) = true := decide_eq_true c11
              clear c11
              obtain ⟨y301, hy301⟩ : ∃ y_ : List Int, y_ = (([(wrap64 (192 + (wrap64 (Int.tdiv x3_5 64)))) % 256, (wrap64 (128 + (Int.tmod x3_5 64))) % 256] : List Int)) := ⟨_, rfl⟩
              replace H : (some y301) = some r := by first | (rw [hy301]; with_reducible exact H) | (have H2_ := (Option.bind_some _ _).symm.trans H; rw [hy301]; with_reducible exact H2_) | (have H2_ := (Option.bind_some _ _).symm.trans H; with_reducible exact H2_) | with_reducible exact H | (rw [hy301]; exact H) | exact H
              have Ny301 := Aside0.mk hy301
              clear hy301
              obtain rfl := Option.some.inj H
              go_wp2_with (first | ((with_reducible refine gate_dst (N := 35) rfl ?_); refine Kd.R_lit (Kd.int .u8) _ 5 ?hg (N := 35) ?hd (xs := ([(wrap64 (192 + (wrap64 (Int.tdiv x3_5 64)))) % 256, (wrap64 (128 + (Int.tmod x3_5 64))) % 256] : List Int)) (inner := [.int .u8 ((wrap64 (192 + (wrap64 (Int.tdiv x3_5 64)))) % 256), .int .u8 ((wrap64 (128 + (Int.tmod x3_5 64))) % 256)]) (ok := fun _ => True) (okp := fun _ => True) ?hr ?hp (fun _ hk => hk) trivial (Below.refl _ _) (Nat.le_refl _) (by simp) ?_; (case hd => rfl); (case hg => rfl); (case hr => first | (go_simp; done) | (go_simp; rfl)); (case hp => exact (Reps.one (show Kd.M (Kd.int .u8) _ _ _ ((wrap64 (192 + (wrap64 (Int.tdiv x3_5 64)))) % 256) [.int .u8 ((wrap64 (192 + (wrap64 (Int.tdiv x3_5 64)))) % 256)] from rfl) (Reps.one (show Kd.M (Kd.int .u8) _ _ _ ((wrap64 (128 + (Int.tmod x3_5 64))) % 256) [.int .u8 ((wrap64 (128 + (Int.tmod x3_5 64))) % 256)] from rfl) (Reps.none _ _)))); intro v302 w12 ho13 hb hg_ hnew_; clear hg_ hnew_; (first | rw [← Ny301.out] at ho13 | (simp only [Int.reduceToNat] at ho13; rw [← Ny301.out] at ho13)); have n0_ := Aside0.mk (Kd.R_lower ho13 (below_size (by repeat (first | (with_reducible first | exact HB.out | apply below_alloc | apply pw_below_drewN | apply below_drew1) | exact HB.out)))); have n1_ := Aside0.mk (below_step (by repeat (first | (with_reducible first | exact HB.out | apply below_alloc | apply pw_below_drewN | apply below_drew1) | exact HB.out)) hb); clear HB; have HO303 := n0_; have HB := n1_; clear n0_ n1_; clear hb ho13))
              go_ret
              exact ⟨_, by first | rfl | (simp [errW_none, errW_some] <;> rfl) | (simp [*, errW_none, errW_some] <;> rfl), by (with_reducible repeat (first | apply Kd.R_alloc | apply Kd.R_drewN | apply Kd.R_drew)); exact HO303.out, by repeat (first | (with_reducible first | exact HB.out | apply below_alloc | apply pw_below_drewN | apply below_drew1) | exact HB.out)⟩
            · rw [if_neg c11] at H
              have c11b0 : decide (x3_5 < 2048) = false := decide_eq_false c11
              clear c11
              by_cases c14 : x3_5 < 65536
              · rw [if_pos c14] at H
                have c14b0 : decide (x3_5 < 65536) = true := decide_eq_true c14
                clear c14
                obtain ⟨y304, hy304⟩ : ∃ y_ : List Int, y_ = (([(wrap64 (224 + (wrap64 (Int.tdiv x3_5 4096)))) % 256, (wrap64 (128 + (Int.tmod (wrap64 (Int.tdiv x3_5 64)) 64))) % 256, (wrap64 (128 + (Int.tmod x3_5 64))) % 256] : List Int)) := ⟨_, rfl⟩
                replace H : (some y304) = some r := by first | (rw [hy304]; with_reducible exact H) | (have H2_ := (Option.bind_some _ _).symm.trans H; rw [hy304]; with_reducible exact H2_) | (have H2_ := (Option.bind_some _ _).symm.trans H; with_reducible exact H2_) | with_reducible exact H | (rw [hy304]; exact H) | exact H
                have Ny304 := Aside0.mk hy304
                clear hy304
                obtain rfl := Option.some.inj H
                go_wp2_with (first | ((with_reducible refine gate_dst (N := 51) rfl ?_); refine Kd.R_lit (Kd.int .u8) _ 5 ?hg (N := 51) ?hd (xs := ([(wrap64 (224 + (wrap64 (Int.tdiv x3_5 4096)))) % 256, (wrap64 (128 + (Int.tmod (wrap64 (Int.tdiv x3_5 64)) 64))) % 256, (wrap64 (128 + (Int.tmod x3_5 64))) % 256] : List Int)) (inner := [.int .u8 ((wrap64 (224 + (wrap64 (Int.tdiv x3_5 4096)))) % 256), .int .u8 ((wrap64 (128 + (Int.tmod (wrap64 (Int.tdiv x3_5 64)) 64))) % 256), .int .u8 ((wrap64 (128 + (Int.tmod x3_5 64))) % 256)]) (ok := fun _ => True) (okp := fun _ => True) ?hr ?hp (fun _ hk => hk) trivial (Below.refl _ _) (Nat.le_refl _) (by simp) ?_; (case hd => rfl); (case hg => rfl); (case hr => first | (go_simp; done) | (go_simp; rfl)); (case hp => exact (Reps.one (show Kd.M (Kd.int .u8) _ _ _ ((wrap64 (224 + (wrap64 (Int.tdiv x3_5 4096)))) % 256) [.int .u8 ((wrap64 (224 + (wrap64 (Int.tdiv x3_5 4096)))) % 256)] from rfl) (Reps.one (show Kd.M (Kd.int .u8) _ _ _ ((wrap64 (128 + (Int.tmod (wrap64 (Int.tdiv x3_5 64)) 64))) % 256) [.int .u8 ((wrap64 (128 + (Int.tmod (wrap64 (Int.tdiv x3_5 64)) 64))) % 256)] from rfl) (Reps.one (show Kd.M (Kd.int .u8) _ _ _ ((wrap64 (128 + (Int.tmod x3_5 64))) % 256) [.int .u8 ((wrap64 (128 + (Int.tmod x3_5 64))) % 256)] from rfl) (Reps.none _ _))))); intro v305 w15 ho16 hb hg_ hnew_; clear hg_ hnew_; (first | rw [← Ny304.out] at ho16 | (simp only [Int.reduceToNat] at ho16; rw [← Ny304.out] at ho16)); have n0_ := Aside0.mk (Kd.R_lower ho16 (below_size (by repeat (first | (with_reducible first | exact HB.out | apply below_alloc | apply pw_below_drewN | apply below_drew1) | exact HB.out)))); have n1_ := Aside0.mk (below_step (by repeat (first | (with_reducible first | exact HB.out | apply below_alloc | apply pw_below_drewN | apply below_drew1) | exact HB.out)) hb); clear HB; have HO306 := n0_; have HB := n1_; clear n0_ n1_; clear hb ho16))
                go_ret
                exact ⟨_, by first | rfl | (simp [errW_none, errW_some] <;> rfl) | (simp [*, errW_none, errW_some] <;> rfl), by (with_reducible repeat (first | apply Kd.R_alloc | apply Kd.R_drewN | apply Kd.R_drew)); exact HO306.out, by repeat (first | (with_reducible first | exact HB.out | apply below_alloc | apply pw_below_drewN | apply below_drew1) | exact HB.out)⟩
              · rw [if_neg c14] at H
                have c14b0 : decide (x3_5 < 65536) = false := decide_eq_false c14
                clear c14
                obtain ⟨y307, hy307⟩ : ∃ y_ : List Int, y_ = (([(wrap64 (240 + (wrap64 (Int.tdiv x3_5 262144)))) % 256, (wrap64 (128 + (Int.tmod (wrap64 (Int.tdiv x3_5 4096)) 64))) % 256, (wrap64 (128 + (Int.tmod (wrap64 (Int.tdiv x3_5 64)) 64))) % 256, (wrap64 (128 + (Int.tmod x3_5 64))) % 256] : List Int)) := ⟨_, rfl⟩
                replace H : (some y307) = some r := by first | (rw [hy307]; with_reducible exact H) | (have H2_ := (Option.bind_some _ _).symm.trans H; rw [hy307]; with_reducible exact H2_) | (have H2_ := (Option.bind_some _ _).symm.trans H; with_reducible exact H2_) | with_reducible exact H | (rw [hy307]; exact H) | exact H
                have Ny307 := Aside0.mk hy307
                clear hy307
                obtain rfl := Option.some.inj H
                go_wp2_with (first | ((with_reducible refine gate_dst (N := 70) rfl ?_); refine Kd.R_lit (Kd.int .u8) _ 5 ?hg (N := 70) ?hd (xs := ([(wrap64 (240 + (wrap64 (Int.tdiv x3_5 262144)))) % 256, (wrap64 (128 + (Int.tmod (wrap64 (Int.tdiv x3_5 4096)) 64))) % 256, (wrap64 (128 + (Int.tmod (wrap64 (Int.tdiv x3_5 64)) 64))) % 256, (wrap64 (128 + (Int.tmod x3_5 64))) % 256] : List Int)) (inner := [.int .u8 ((wrap64 (240 + (wrap64 (Int.tdiv x3_5 262144)))) % 256), .int .u8 ((wrap64 (128 + (Int.tmod (wrap64 (Int.tdiv x3_5 4096)) 64))) % 256), .int .u8 ((wrap64 (128 + (Int.tmod (wrap64 (Int.tdiv x3_5 64)) 64))) % 256), .int .u8 ((wrap64 (128 + (Int.tmod x3_5 64))) % 256)]) (ok := fun _ => True) (okp := fun _ => True) ?hr ?hp (fun _ hk => hk) trivial (Below.refl _ _) (Nat.le_refl _) (by simp) ?_; (case hd => rfl); (case hg => rfl); (case hr => first | (go_simp; done) | (go_simp; rfl)); (case hp => exact (Reps.one (show Kd.M (Kd.int .u8) _ _ _ ((wrap64 (240 + (wrap64 (Int.tdiv x3_5 262144)))) % 256) [.int .u8 ((wrap64 (240 + (wrap64 (Int.tdiv x3_5 262144)))) % 256)] from rfl) (Reps.one (show Kd.M (Kd.int .u8) _ _ _ ((wrap64 (128 + (Int.tmod (wrap64 (Int.tdiv x3_5 4096)) 64))) % 256) [.int .u8 ((wrap64 (128 + (Int.tmod (wrap64 (Int.tdiv x3_5 4096)) 64))) % 256)] from rfl) (Reps.one (show Kd.M (Kd.int .u8) _ _ _ ((wrap64 (128 + (Int.tmod (wrap64 (Int.tdiv x3_5 64)) 64))) % 256) [.int .u8 ((wrap64 (128 + (Int.tmod (wrap64 (Int.tdiv x3_5 64)) 64))) % 256)] from rfl) (Reps.one (show Kd.M (Kd.int .u8) _ _ _ ((wrap64 (128 + (Int.tmod x3_5 64))) % 256) [.int .u8 ((wrap64 (128 + (Int.tmod x3_5 64))) % 256)] from rfl) (Reps.none _ _)))))); intro v308 w17 ho18 hb hg_ hnew_; clear hg_ hnew_; (first | rw [← Ny307.out] at ho18 | (simp only [Int.reduceToNat] at ho18; rw [← Ny307.out] at ho18)); have n0_ := Aside0.mk (Kd.R_lower ho18 (below_size (by repeat (first | (with_reducible first | exact HB.out | apply below_alloc | apply pw_below_drewN | apply below_drew1) | exact HB.out)))); have n1_ := Aside0.mk (below_step (by repeat (first | (with_reducible first | exact HB.out | apply below_alloc | apply pw_below_drewN | apply below_drew1) | exact HB.out)) hb); clear HB; have HO309 := n0_; have HB := n1_; clear n0_ n1_; clear hb ho18))
                go_ret
                exact ⟨_, by first | rfl | (simp [errW_none, errW_some] <;> rfl) | (simp [*, errW_none, errW_some] <;> rfl), by (with_reducible repeat (first | apply Kd.R_alloc | apply Kd.R_drewN | apply Kd.R_drew)); exact HO309.out, by repeat (first | (with_reducible first | exact HB.out | apply below_alloc | apply pw_below_drewN | apply below_drew1) | exact HB.out)⟩

end Go.Proofs.Ytccadgnbomgpcaa.Tx
