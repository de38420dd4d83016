-- The law TextSigns (function 6).
import Derived.RangeFuncNested
import Derived.Test.YtccadgnbomgpcaaTxSig
import Derived.Test.YtccadgnbomgpcaaTxHead
import Derived.Test.YtccadgnbomgpcaaTxRef
namespace Go.Proofs.Ytccadgnbomgpcaa.Tx
open Go.RowKit Go.Shelf Go.Proofs.YtccadgnbomgpcaaW.PrintWords Go.Proofs.YtccadgnbomgpcaaW.PrintLast Go.Proofs.YtccadgnbomgpcaaW.PrintMore
attribute [local go_sem] Oper.semAt_some
attribute [local go_sem] max2_int min2_int max_two min_two max_three min_three max_four min_four
set_option linter.unusedVariables false
set_option linter.unusedSimpArgs false

theorem all_calls {b : List Int} {A0 : Option Addr} {c0 N : Nat} {w : World} (hr0 : Kd.C (Kd.int .u8) w A0 b.length b) (hc0 : b.length ≤ c0) (hB : Bytes b) (hlen : b.length < 1000000) (hN : N = (sg 0 b).length) :
    Calls Try.prog 21 #[.slice A0 b.length c0] w fun e w' => ∃ A1 c1 A2 c2, e = .returned (.tuple #[.slice A1 N c1, .slice A2 N c2]) ∧ Kd.C (Kd.int .i32) w' A1 N ((sg 0 b).map (·.2)) ∧ Kd.C (Kd.int .i64) w' A2 N ((sg 0 b).map (fun p => (p.1 : Int))) ∧ Below w.heap.size w w' := by
  have := woodcutref01_All.calls (b.length + 22) A0 c0 b _ _ w hr0 hc0 (all_eq hB hlen _ (Nat.le_refl _))
  refine this.mono ?_
  rintro e w' ⟨v0, v1, rfl, h0, h1, hb⟩
  obtain ⟨A1, c1, rfl⟩ := Kd.R_slice h0
  obtain ⟨A2, c2, rfl⟩ := Kd.R_slice h1
  have e0 := (Kd.R_reads' h0).2.2
  have e1 := (Kd.R_reads' h1).2.2
  rw [List.length_map, ← hN] at e0 e1
  exact ⟨A1, c1, A2, c2, by rw [List.length_map, List.length_map, ← hN], e0, e1, hb⟩

theorem and15 (x : Int) : ∃ m : Nat, Go.bits .and .i64 x 15 = (m : Int) ∧ m ≤ 15 := by
  refine ⟨(BitVec.ofInt 64 x).toNat &&& 15, ?_, Nat.and_le_right⟩
  have h : (BitVec.ofInt 64 x).toNat &&& 15 ≤ 15 := Nat.and_le_right
  obtain ⟨y, hy⟩ : ∃ y, y = (BitVec.ofInt 64 x).toNat &&& 15 := ⟨_, rfl⟩
  have e : Go.bits .and .i64 x 15 = IntKind.i64.wrap (((BitVec.ofInt 64 x).toNat &&& 15 : Nat) : Int) := by
    show IntKind.i64.wrap (((BitVec.ofInt 64 x &&& BitVec.ofInt 64 15).toNat : Nat) : Int) = _
    rw [BitVec.toNat_and]
    rfl
  rw [e, ← hy]
  rw [← hy] at h
  rw [IntKind.wrap_i64]
  omega
theorem ownFrom_heap {β : Type} {B D : Nat} {o : Obj} (hD : D < B) : OwnFrom B (fun (_ : β) W => W.heap[D]? = some o) := fun s X Y row hs hg hr =>
  (hg.block D (Array.getElem?_eq_some_iff.1 hs).1 (fun e => by have := (hr D e.symm).1; omega)).trans hs
theorem heap_setCell_ne {W : World} {D B : Nat} {o : Obj} (h : W.heap[D]? = some o) (hne : D ≠ B) (v : Value) : (W.setCell ⟨B, 0, none⟩ v).heap[D]? = some o :=
  ((grownBy_setCell' W B v).block D (Array.getElem?_eq_some_iff.1 h).1 (fun e => hne (by cases e; rfl))).trans h
theorem next_of {xs pre : List (Nat × Int)} (h : pre <+: xs) (hl : pre.length < xs.length) : ∃ p : Nat × Int, pre ++ [p] <+: xs ∧ (xs.map (·.2))[pre.length]? = some p.2 ∧ (xs.map (fun p => (p.1 : Int)))[pre.length]? = some (p.1 : Int) := by
  obtain ⟨t, rfl⟩ := h
  cases t with
  | nil => simp at hl
  | cons p t => exact ⟨p, ⟨t, by simp⟩, by simp, by simp⟩
theorem not_pre {xs pre : List (Nat × Int)} {p q : Nat × Int} (h : pre ++ [p] <+: xs) (hne : q ≠ p) : ¬ pre ++ [q] <+: xs := by
  rintro ⟨t, ht⟩
  obtain ⟨u, hu⟩ := h
  rw [← hu, List.append_assoc, List.append_assoc] at ht
  have := List.append_cancel_left ht
  simp at this
  exact hne this.1
theorem cell_at {k : IntKind} {W : World} {A : Option Addr} {n i : Nat} {xs : List Int} {v : Int} (h : Kd.C (Kd.int k) W A n xs) (hi : i < n) (hv : xs[i]? = some v) : ∃ ad, A = some ad ∧ W.cell? (ad.add i) = some (.int k v) := by
  obtain ⟨ad, e, hc⟩ := Kd.at_int h (i : Int) (by omega) (by omega)
  refine ⟨ad, e, ?_⟩
  have : rd xs (i : Int) = v := by simp [rd, hv]
  rw [this] at hc
  exact hc

set_option maxRecDepth 100000 in
set_option maxHeartbeats 8000000 in
theorem signs_law (A0 : Option Addr) (c0 : Nat) (b : List Int) (stop : Int) (w : World) (hr0 : Kd.C (Kd.int .u8) w A0 b.length b) (hc0 : b.length ≤ c0) (hB : Bytes b) :
    CallsIn Fence.wide 5 Try.prog 6 #[.slice A0 b.length c0, .int .i64 stop] w fun e w' => e = .returned (.bool true) ∧ Below w.heap.size w w' := by
  have h15 : 1 ≤ 5 := by omega
  have HC := Aside0.mk hr0
  have HC0 := Aside0.mk hc0
  clear hr0 hc0
  refine callsIn_of_wp_marks Try.func6 rfl trivial ?_ rfl
  simp only [Try.ntmps6, List.size_toArray, List.length_cons, List.length_nil, Nat.reduceAdd, Nat.reduceSub, Array.replicate_succ, Array.replicate_zero, List.push_toArray, List.append_toArray, List.nil_append, List.cons_append]
  by_cases hl : b.length ≤ 1000
  · have hl1 : decide (1000 < (b.length : Int)) = false := decide_eq_false (by omega)
    obtain ⟨N, hN⟩ : ∃ N, N = (sg 0 b).length := ⟨_, rfl⟩
    have hNs := Aside0.mk hN
    have hNle : N ≤ b.length := by rw [hN]; exact sg_len 0 b
    clear hN
    gi_wp2
    refine ⟨trivial, (callsIn_wide.2 (woodcutlaw01_head.calls true _ head_true)).mono ?_⟩
    rintro e w1 ⟨rfl, hb1⟩
    have bS0 : Boxed w1 w.heap.size 3 (.int .i64 stop) := (hb1.block _ (by simp; omega)).trans ((Boxed.new w 3 (.int .i64 stop)).alloc _)
    have bR0 : Boxed w1 (w.heap.size + 1) 4 (.bool false) := (hb1.block _ (by simp)).trans (by have := Boxed.new (w.alloc (.cells #[.int .i64 stop] 3)) 4 (.bool false); rwa [World.size_alloc] at this)
    have hw1 : Below w.heap.size w w1 := (((Below.refl _ w).alloc (Nat.le_refl _) _).alloc (by simp) _).trans (hb1.mono (by simp; omega))
    have hs1 : w.heap.size + 2 ≤ w1.heap.size := by have := hb1.size; simpa using this
    clear hb1
    gi_wp2
    refine ⟨trivial, (callsIn_wide.2 (all_calls (Kd.C_below HC.out hw1) HC0.out hB (by omega) hNs.out)).mono ?_⟩
    rintro e w2 ⟨Ar, cr, Aa, ca, rfl, hCr, hCa, hb2⟩
    have bS := (hb2.block _ bS0.lt).trans bS0
    have bR := (hb2.block _ bR0.lt).trans bR0
    replace bS : Boxed w2 w.heap.size 3 (.int .i64 stop) := bS
    replace bR : Boxed w2 (w.heap.size + 1) 4 (.bool false) := bR
    have hw2 : Below w.heap.size w w2 := hw1.trans (hb2.mono (by omega))
    have hs2 : w.heap.size + 2 ≤ w2.heap.size := by have := hb2.size; omega
    clear hb2 bS0 bR0 hw1 hs1
    gi_wp2
    refine ⟨trivial, (signs_in _ _ _ _ _).mono ?_⟩
    rintro e w' ⟨rfl, rfl⟩
    gi_wp2
    have b5 := Boxed.new w2 38 (.slice Ar N cr)
    have b6 := Boxed.new (w2.alloc (.cells #[.slice Ar N cr] 38)) 39 (.slice Aa N ca)
    have b7 := Boxed.new ((w2.alloc (.cells #[.slice Ar N cr] 38)).alloc (.cells #[.slice Aa N ca] 39)) 3 (.int .i64 0)
    have bN := Boxed.new (((w2.alloc (.cells #[.slice Ar N cr] 38)).alloc (.cells #[.slice Aa N ca] 39)).alloc (.cells #[.int .i64 0] 3)) 37 (.slice A0 b.length c0)
    rw [World.size_alloc] at b6
    rw [World.size_alloc, World.size_alloc] at b7
    rw [World.size_alloc, World.size_alloc, World.size_alloc] at bN
    have hB0 : Below w2.heap.size w2 ((((w2.alloc (.cells #[.slice Ar N cr] 38)).alloc (.cells #[.slice Aa N ca] 39)).alloc (.cells #[.int .i64 0] 3)).alloc (.cells #[.slice A0 b.length c0] 37)) := ((((Below.refl _ w2).alloc (Nat.le_refl _) _).alloc (by simp) _).alloc (by simp; omega) _).alloc (by simp; omega) _
    refine wpIn_rangeFunc_ownG rfl h15 (gf := 46) (lb := #[.pointer (some ⟨w2.heap.size + 1 + 1 + 1, 0, none⟩)]) rfl trivial (enters_of Try.func46 (by kernel_rfl) rfl)
      (signs_stops (5 - 1) (by omega) (w2.heap.size + 1 + 1 + 1) w2 A0 c0 b (by omega) hB HC0.out (Kd.C_below HC.out hw2) _ hB0 bN) (fun h k => KpS.trans h k) (kpS_b (by simp; omega) (by simp)) (Below.refl _ _) (fun _ => rfl)
      (fun pre W => (((Boxed W w2.heap.size 38 (.slice Ar N cr) ∧ Boxed W (w2.heap.size + 1) 39 (.slice Aa N ca)) ∧ Boxed W (w2.heap.size + 1 + 1) 3 (.int .i64 (pre.length : Int)) ∧ Boxed W (w2.heap.size + 1 + 1 + 1) 37 (.slice A0 b.length c0)) ∧ pre <+: sg 0 b) ∧ Below w2.heap.size w2 W)
      (fun c pre _ => c = .ret ∧ ¬ pre <+: sg 0 b)
      (OwnFrom.and (OwnFrom.and (OwnFrom.and (OwnFrom.and (Own.from (boxed_own _ _ (fun _ => .slice Ar N cr)) _) (Own.from (boxed_own _ _ (fun _ => .slice Aa N ca)) _)) (OwnFrom.and (Own.from (boxed_own _ _ (fun pre : List (Nat × Int) => .int .i64 (pre.length : Int))) _) (Own.from (boxed_own _ _ (fun _ => .slice A0 b.length c0)) _))) (ownFrom_pure _ _)) (ownFrom_below (Nat.le_refl _) (by simp; omega)))
      (fun c => ownFrom_pure _ _)
      ⟨⟨⟨⟨((b5.alloc _).alloc _).alloc _, (b6.alloc _).alloc _⟩, b7.alloc _, bN⟩, List.nil_prefix⟩, hB0⟩
      (fun x => { tmps := #[.slice A0 b.length c0, .int .i64 stop, undef, .pointer (some ⟨w.heap.size, 0, none⟩), .pointer (some ⟨w.heap.size + 1, 0, none⟩), .pointer (some ⟨w2.heap.size, 0, none⟩), .pointer (some ⟨w2.heap.size + 1, 0, none⟩), .pointer (some ⟨w2.heap.size + 1 + 1, 0, none⟩), .int .i64 x.1, .int .i32 x.2, .bool true, .bool false, .slice A0 b.length c0, .int .i64 b.length, .bool false, .tuple #[.slice Ar N cr, .slice Aa N ca], .slice A0 b.length c0, .tuple #[.slice Ar N cr, .slice Aa N ca], .slice Ar N cr, .slice Aa N ca, .slice A0 b.length c0, .func (.func 46) #[] #[.pointer (some ⟨w2.heap.size + 1 + 1 + 1, 0, none⟩)], .int .i64 x.1, .int .i32 x.2, undef, undef, undef, undef, undef, undef, undef, undef, undef, undef, undef, undef, undef, undef, undef, undef, undef, undef, undef, undef, undef, undef, undef, undef, undef, undef, undef, undef, undef, undef, undef, undef, undef, undef, undef, undef, undef, undef, undef, undef, undef, undef, undef, undef], defers := [] }) ?assign1 ?body1 ?done1 ?stop1
    case assign1 =>
      intro l x W K hK
      gi_wp2
      exact hK
    case body1 =>
      rintro l pre ⟨o, r⟩ W ⟨⟨⟨⟨i5, i6⟩, i7, iN⟩, ipre⟩, iB⟩ hlt
      obtain ⟨⟨p0, q0⟩, hp1, hp2, hp3⟩ := next_of ipre hlt
      rw [← hNs.out] at hlt
      obtain ⟨ad, rfl, hcr⟩ := cell_at (Kd.C_below hCr iB) hlt hp2
      obtain ⟨ad2, rfl, hca⟩ := cell_at (Kd.C_below hCa iB) hlt hp3
      dsimp only at hcr hca
      have c5 := i5.cell
      have c6 := i6.cell
      have c7 := i7.cell
      have f7 := i7.frozen
      obtain ⟨n, hn⟩ : ∃ n, n = pre.length := ⟨_, rfl⟩
      rw [← hn] at hlt hcr hca c7
      have hd1 : decide ((N : Int) ≤ (n : Int)) = false := decide_eq_false (by omega)
      have hd2 : decide (N ≤ n) = false := decide_eq_false (by omega)
      have hd3 : (N ≤ n) = False := eq_false (by omega)
      have hn' := Aside0.mk hn
      clear hn
      have iR := (iB.block _ bR.lt).trans bR
      replace iR : Boxed W (w.heap.size + 1) 4 (.bool false) := iR
      have cR := iR.cell
      have fR := iR.frozen
      have hp' := Aside0.mk hp1
      clear hp1 hp2 hp3 ipre
      by_cases h1 : o = p0
      · subst h1
        by_cases h2 : r = q0
        · subst h2
          have e5 := Aside0.mk (show ((n : Int) + 1) = (((pre ++ [(o, r)]).length : Nat) : Int) from by rw [hn'.out]; simp)
          gi_wp2
          exact ⟨(KeepsOthers.setCell _ _ _).from _, ⟨(Below.refl _ W).setCell (p := ⟨w2.heap.size + 1 + 1, 0, none⟩) (by show w2.heap.size ≤ w2.heap.size + 1 + 1; omega) _, (iN.other (by omega) _).trans iN.symm⟩,
            ⟨⟨⟨i5.other (by omega) _, i6.other (by omega) _⟩, by rw [← e5.out]; exact i7.set _, iN.other (by omega) _⟩, hp'.out⟩, iB.setCell (p := ⟨w2.heap.size + 1 + 1, 0, none⟩) (by show w2.heap.size ≤ w2.heap.size + 1 + 1; omega) _⟩
        · have h2b : (r != q0) = true := bne_iff_ne.2 h2
          have hnp := Aside0.mk (not_pre hp'.out (q := (o, r)) (by intro e; cases e; exact h2 rfl))
          clear h2
          gi_wp2
          exact ⟨(KeepsOthers.setCell _ _ _).from _, rfl, hnp.out⟩
      · have h1b : ((o : Int) != (p0 : Int)) = true := bne_iff_ne.2 (by omega)
        have h1c : ((o : Int) = (p0 : Int)) = False := eq_false (by omega)
        have hnp := Aside0.mk (not_pre hp'.out (q := (o, r)) (by intro e; cases e; exact h1 rfl))
        clear h1
        gi_wp2
        exact ⟨(KeepsOthers.setCell _ _ _).from _, rfl, hnp.out⟩
    case done1 =>
      rintro D ys W hD rfl ⟨⟨⟨⟨i5, i6⟩, i7, iN⟩, ipre⟩, iB⟩ hK
      rw [← hNs.out] at i7
      have iR := (iB.block _ bR.lt).trans bR
      replace iR : Boxed W (w.heap.size + 1) 4 (.bool false) := iR
      have iS := (iB.block _ bS.lt).trans bS
      replace iS : Boxed W w.heap.size 3 (.int .i64 stop) := iS
      have c5 := i5.cell
      have c7 := i7.cell
      have f7 := i7.frozen
      have cS := iS.cell
      have fS := iS.frozen
      obtain ⟨m, hm, hm15⟩ := and15 stop
      have iB' := Aside0.mk iB
      clear ipre
      gi_wp2
      obtain ⟨W5, hW5⟩ : ∃ W5, ((W.setCell ⟨w.heap.size, 0, none⟩ (.int .i64 (m : Int))).setCell ⟨w2.heap.size + 1 + 1, 0, none⟩ (.int .i64 0)) = W5 := ⟨_, rfl⟩
      have hD4 : w2.heap.size + 4 ≤ D := by simp at hD; omega
      have jS : Boxed W5 w.heap.size 3 (.int .i64 (m : Int)) := by rw [← hW5]; exact (iS.set _).other (by omega) _
      have jR : Boxed W5 (w.heap.size + 1) 4 (.bool false) := by rw [← hW5]; exact (iR.other (by omega) _).other (by omega) _
      have j5 : Boxed W5 w2.heap.size 38 (.slice Ar N cr) := by rw [← hW5]; exact (i5.other (by omega) _).other (by omega) _
      have j7 : Boxed W5 (w2.heap.size + 1 + 1) 3 (.int .i64 0) := by rw [← hW5]; exact (i7.other (by omega) _).set _
      have jK : W5.heap[D]? = some (.deferred (some [])) := by rw [← hW5]; exact heap_setCell_ne (heap_setCell_ne hK (by omega) _) (by omega) _
      have jB : Below w.heap.size w W5 := by
        rw [← hW5]
        exact ((hw2.trans (iB.mono (by omega))).setCell (p := ⟨w.heap.size, 0, none⟩) (Nat.le_refl _) _).setCell (p := ⟨w2.heap.size + 1 + 1, 0, none⟩) (by show w.heap.size ≤ w2.heap.size + 1 + 1; omega) _
      rw [hW5]
      clear hW5 iS iR i5 i6 i7 iN iB iB' hK hD c5 c7 f7 cS fS
      have hDW := (Array.getElem?_eq_some_iff.1 jK).1
      refine ⟨trivial, (signs_in _ _ _ _ _).mono ?_⟩
      rintro e w' ⟨rfl, rfl⟩
      gi_wp2
      have bN6 := Boxed.new W5 37 (.slice A0 b.length c0)
      have hB6 : Below w.heap.size w (W5.alloc (.cells #[.slice A0 b.length c0] 37)) := jB.alloc jB.size _
      refine wpIn_rangeFunc_ownG rfl h15 (gf := 46) (lb := #[.pointer (some ⟨W5.heap.size, 0, none⟩)]) rfl trivial (enters_of Try.func46 (by kernel_rfl) rfl)
        (signs_stops (5 - 1) (by omega) W5.heap.size w A0 c0 b (by omega) hB HC0.out HC.out _ hB6 bN6) (fun h k => KpS.trans h k) (kpS_b (by have := jB.size; simp; omega) (by simp)) (Below.refl _ _) (fun _ => rfl)
        (fun pre W => (((Boxed W w.heap.size 3 (.int .i64 (m : Int)) ∧ Boxed W (w.heap.size + 1) 4 (.bool false)) ∧ Boxed W w2.heap.size 38 (.slice Ar N cr) ∧ Boxed W (w2.heap.size + 1 + 1) 3 (.int .i64 (pre.length : Int)) ∧ Boxed W W5.heap.size 37 (.slice A0 b.length c0)) ∧ W.heap[D]? = some (.deferred (some [])) ∧ pre.length ≤ m) ∧ Below w.heap.size w W)
        (fun c pre W => (((Boxed W w.heap.size 3 (.int .i64 (m : Int)) ∧ Boxed W (w.heap.size + 1) 4 (.bool false)) ∧ Boxed W w2.heap.size 38 (.slice Ar N cr) ∧ Boxed W (w2.heap.size + 1 + 1) 3 (.int .i64 (pre.length : Int)) ∧ Boxed W W5.heap.size 37 (.slice A0 b.length c0)) ∧ W.heap[D]? = some (.deferred (some [])) ∧ c = .exit 2 ∧ pre.length = m + 1) ∧ Below w.heap.size w W)
        (OwnFrom.and (OwnFrom.and (OwnFrom.and (OwnFrom.and (Own.from (boxed_own _ _ (fun _ => .int .i64 (m : Int))) _) (Own.from (boxed_own _ _ (fun _ => .bool false)) _)) (OwnFrom.and (Own.from (boxed_own _ _ (fun _ => .slice Ar N cr)) _) (OwnFrom.and (Own.from (boxed_own _ _ (fun pre : List (Nat × Int) => .int .i64 (pre.length : Int))) _) (Own.from (boxed_own _ _ (fun _ => .slice A0 b.length c0)) _)))) (OwnFrom.and (ownFrom_heap (by simp; omega)) (ownFrom_pure _ _))) (ownFrom_below (Nat.le_refl _) (by have := jB.size; simp; omega)))
        (fun c => OwnFrom.and (OwnFrom.and (OwnFrom.and (OwnFrom.and (Own.from (boxed_own _ _ (fun _ => .int .i64 (m : Int))) _) (Own.from (boxed_own _ _ (fun _ => .bool false)) _)) (OwnFrom.and (Own.from (boxed_own _ _ (fun _ => .slice Ar N cr)) _) (OwnFrom.and (Own.from (boxed_own _ _ (fun pre : List (Nat × Int) => .int .i64 (pre.length : Int))) _) (Own.from (boxed_own _ _ (fun _ => .slice A0 b.length c0)) _)))) (OwnFrom.and (ownFrom_heap (by simp; omega)) (ownFrom_pure _ _))) (ownFrom_below (Nat.le_refl _) (by have := jB.size; simp; omega)))
        ⟨⟨⟨⟨jS.alloc _, jR.alloc _⟩, j5.alloc _, j7.alloc _, bN6⟩, (Below.heap_alloc _ _ _ hDW).trans jK, Nat.zero_le _⟩, hB6⟩
        (fun x => { tmps := #[.slice A0 b.length c0, .int .i64 stop, undef, .pointer (some ⟨w.heap.size, 0, none⟩), .pointer (some ⟨w.heap.size + 1, 0, none⟩), .pointer (some ⟨w2.heap.size, 0, none⟩), .pointer (some ⟨w2.heap.size + 1, 0, none⟩), .pointer (some ⟨w2.heap.size + 1 + 1, 0, none⟩), undef, undef, .bool true, .bool false, .slice A0 b.length c0, .int .i64 b.length, .bool false, .tuple #[.slice Ar N cr, .slice Aa N ca], .slice A0 b.length c0, .tuple #[.slice Ar N cr, .slice Aa N ca], .slice Ar N cr, .slice Aa N ca, .slice A0 b.length c0, .func (.func 46) #[] #[.pointer (some ⟨w2.heap.size + 1 + 1 + 1, 0, none⟩)], undef, undef, undef, undef, undef, undef, undef, undef, undef, undef, undef, undef, undef, undef, undef, undef, undef, undef, undef, undef, undef, undef, undef, undef, .int .i64 N, .slice Ar N cr, .int .i64 N, .bool false, .int .i64 stop, .int .i64 m, .slice A0 b.length c0, .func (.func 46) #[] #[.pointer (some ⟨W5.heap.size, 0, none⟩)], .int .i64 x.1, .int .i32 x.2, undef, undef, undef, undef, undef, undef, undef, undef, undef, undef, undef, undef], defers := [] }) ?assign2 ?body2 ?done2 ?stop2
      case assign2 =>
        intro l x W K hK
        gi_wp2
        exact hK
      case body2 =>
        rintro l pre x W ⟨⟨⟨⟨kS, kR⟩, k5, k7, kN⟩, kK, kle⟩, kB⟩ hlt
        have cS := kS.cell
        have c7 := k7.cell
        have f7 := k7.frozen
        obtain ⟨n, hn⟩ : ∃ n, n = pre.length := ⟨_, rfl⟩
        rw [← hn] at c7 kle
        have e5 := Aside0.mk (show ((n : Int) + 1) = (((pre ++ [x]).length : Nat) : Int) from by rw [hn]; simp)
        have hn' := Aside0.mk hn
        clear hn
        by_cases hgt : n + 1 ≤ m
        · have hg1 : ((m : Int) < (n : Int) + 1) = False := eq_false (by omega)
          have hg2 : decide ((m : Int) < (n : Int) + 1) = false := decide_eq_false (by omega)
          gi_wp2
          exact ⟨(KeepsOthers.setCell _ _ _).from _, ⟨(Below.refl _ W).setCell (p := ⟨w2.heap.size + 1 + 1, 0, none⟩) (by show w.heap.size ≤ w2.heap.size + 1 + 1; omega) _, (kN.other (by omega) _).trans kN.symm⟩, ⟨⟨⟨kS.other (by omega) _, kR.other (by omega) _⟩, k5.other (by omega) _, by rw [← e5.out]; exact k7.set _, kN.other (by omega) _⟩, heap_setCell_ne kK (by omega) _, by rw [List.length_append, ← hn'.out]; exact hgt⟩, kB.setCell (p := ⟨w2.heap.size + 1 + 1, 0, none⟩) (by show w.heap.size ≤ w2.heap.size + 1 + 1; omega) _⟩
        · have hg1 : ((m : Int) < (n : Int) + 1) = True := eq_true (by omega)
          have hg2 : decide ((m : Int) < (n : Int) + 1) = true := decide_eq_true (by omega)
          gi_wp2
          exact ⟨(KeepsOthers.setCell _ _ _).from _, ⟨⟨⟨kS.other (by omega) _, kR.other (by omega) _⟩, k5.other (by omega) _, by rw [← e5.out]; exact k7.set _, kN.other (by omega) _⟩, heap_setCell_ne kK (by omega) _, rfl, by rw [List.length_append, ← hn'.out]; simp only [List.length_cons, List.length_nil]; omega⟩, kB.setCell (p := ⟨w2.heap.size + 1 + 1, 0, none⟩) (by show w.heap.size ≤ w2.heap.size + 1 + 1; omega) _⟩
      case done2 =>
        rintro D2 ys W hD2 rfl ⟨⟨⟨⟨kS, kR⟩, k5, k7, kN⟩, kK, kle⟩, kB⟩ hK2
        rw [← hNs.out] at k7 kle
        have hg : ((m : Int) + 1 ≤ (N : Int)) = False := eq_false (by omega)
        have hg' : ((N : Int) ≤ (m : Int) + 1) = True := eq_true (by omega)
        have c5 := k5.cell
        have c7 := k7.cell
        have cS := kS.cell
        have cR := kR.cell
        have fR := kR.frozen
        gi_wp2
        have hD2' : D < D2 := by simp at hD2; omega
        have g2 := heap_setCell_ne hK2 (show D2 ≠ w.heap.size + 1 by omega) (.bool true)
        have g1 := heap_setCell_ne kK (show D ≠ w.heap.size + 1 by omega) (.bool true)
        have g0 : Boxed (W.setCell ⟨w.heap.size + 1, 0, none⟩ (.bool true)) (w.heap.size + 1) 4 (.bool true) := kR.set _
        have gB : Below w.heap.size w (W.setCell ⟨w.heap.size + 1, 0, none⟩ (.bool true)) := kB.setCell (p := ⟨w.heap.size + 1, 0, none⟩) (Nat.le_succ _) _
        obtain ⟨W6, hW6⟩ : ∃ W6, W.setCell ⟨w.heap.size + 1, 0, none⟩ (.bool true) = W6 := ⟨_, rfl⟩
        rw [hW6] at g2 g1 g0 gB ⊢
        have g1' : (W6.putObj D2 (.deferred none)).heap[D]? = some (.deferred (some [])) := ((grownBy_putObj' W6 D2 (.deferred none)).block D (Array.getElem?_eq_some_iff.1 g1).1 (by simp; omega)).trans g1
        have g0' := (g0.kept (grownBy_putObj' W6 D2 (.deferred none)) (by simp; omega)).kept (grownBy_putObj' (W6.putObj D2 (.deferred none)) D (.deferred none)) (by simp; omega)
        have gB' := (gB.trans (belowK_b (w := w) (Nat.le_refl _) W6 D2 _ (.deferred none) (by omega) g2 rfl rfl)).trans (belowK_b (w := w) (Nat.le_refl _) (W6.putObj D2 (.deferred none)) D _ (.deferred none) (by omega) g1' rfl rfl)
        have gc := g0'.cell
        refine ⟨by simp, .inl ⟨_, _, rfl, run_takeDeferred g2, by simp, .inl ⟨_, _, rfl, run_takeDeferred g1', ?_⟩⟩⟩
        refine ⟨.bool true, ?_, rfl, gB'⟩
        simp [results, Try.f6, go_sem, gc]
      case stop2 =>
        rintro D2 c pre W hD2 hsp ⟨⟨⟨⟨kS, kR⟩, k5, k7, kN⟩, kK, rfl, kle⟩, kB⟩ hK2
        have hpl : pre.length ≤ N := by rw [hNs.out]; exact hsp.length_le
        rw [kle] at k7 hpl
        have hg : ((m : Int) + 1 ≤ (N : Int)) = True := eq_true (by omega)
        have c5 := k5.cell
        have c7 := k7.cell
        have cS := kS.cell
        have cR := kR.cell
        have fR := kR.frozen
        gi_wp2
        have hD2' : D < D2 := by simp at hD2; omega
        have g2 := heap_setCell_ne hK2 (show D2 ≠ w.heap.size + 1 by omega) (.bool true)
        have g1 := heap_setCell_ne kK (show D ≠ w.heap.size + 1 by omega) (.bool true)
        have g0 : Boxed (W.setCell ⟨w.heap.size + 1, 0, none⟩ (.bool true)) (w.heap.size + 1) 4 (.bool true) := kR.set _
        have gB : Below w.heap.size w (W.setCell ⟨w.heap.size + 1, 0, none⟩ (.bool true)) := kB.setCell (p := ⟨w.heap.size + 1, 0, none⟩) (Nat.le_succ _) _
        obtain ⟨W6, hW6⟩ : ∃ W6, W.setCell ⟨w.heap.size + 1, 0, none⟩ (.bool true) = W6 := ⟨_, rfl⟩
        rw [hW6] at g2 g1 g0 gB ⊢
        have g1' : (W6.putObj D2 (.deferred none)).heap[D]? = some (.deferred (some [])) := ((grownBy_putObj' W6 D2 (.deferred none)).block D (Array.getElem?_eq_some_iff.1 g1).1 (by simp; omega)).trans g1
        have g0' := (g0.kept (grownBy_putObj' W6 D2 (.deferred none)) (by simp; omega)).kept (grownBy_putObj' (W6.putObj D2 (.deferred none)) D (.deferred none)) (by simp; omega)
        have gB' := (gB.trans (belowK_b (w := w) (Nat.le_refl _) W6 D2 _ (.deferred none) (by omega) g2 rfl rfl)).trans (belowK_b (w := w) (Nat.le_refl _) (W6.putObj D2 (.deferred none)) D _ (.deferred none) (by omega) g1' rfl rfl)
        have gc := g0'.cell
        refine ⟨by simp, .inl ⟨_, _, rfl, run_takeDeferred g2, by simp, .inl ⟨_, _, rfl, run_takeDeferred g1', ?_⟩⟩⟩
        refine ⟨.bool true, ?_, rfl, gB'⟩
        simp [results, Try.f6, go_sem, gc]
    case stop1 =>
      rintro D c pre W hD hsp ⟨rfl, hne⟩ hK
      exact absurd hsp hne
  · have hl1 : decide (1000 < (b.length : Int)) = true := decide_eq_true (by omega)
    have hl2 : (1000 < b.length) = True := eq_true (by omega)
    gi_wp2
    refine ⟨trivial, (callsIn_wide.2 (woodcutlaw01_head.calls true _ head_true)).mono ?_⟩
    rintro e w1 ⟨rfl, hb1⟩
    have bR0 : Boxed w1 (w.heap.size + 1) 4 (.bool false) := (hb1.block _ (by simp)).trans (by have := Boxed.new (w.alloc (.cells #[.int .i64 stop] 3)) 4 (.bool false); rwa [World.size_alloc] at this)
    have hw1 : Below w.heap.size w w1 := (((Below.refl _ w).alloc (Nat.le_refl _) _).alloc (by simp) _).trans (hb1.mono (by simp; omega))
    clear hb1
    have cR := bR0.cell
    have fR := bR0.frozen
    gi_wp2
    have g0 := (bR0.set (.bool true)).cell
    refine ⟨.bool true, ?_, rfl, hw1.setCell (p := ⟨w.heap.size + 1, 0, none⟩) (Nat.le_succ _) _⟩
    simp [results, Try.f6, go_sem, g0]

end Go.Proofs.Ytccadgnbomgpcaa.Tx
