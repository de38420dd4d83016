-- text.Decode (function 24).
import Derived.Maps.AppendAt
import Derived.Test.YtccadgnbomgpcaaTxSig
namespace Go.Proofs.Ytccadgnbomgpcaa.Tx
open Go.RowKit Go.Shelf Go.Proofs.YtccadgnbomgpcaaW.PrintWords Go.Proofs.YtccadgnbomgpcaaW.PrintLast Go.Proofs.YtccadgnbomgpcaaW.PrintMore
attribute [local go_sem] Oper.semAt_some
set_option linter.unusedVariables false
set_option linter.unusedSimpArgs false

def text_Decode.f (l0 : List Int) : Option (List Int) := if l0.length < 1000000 ∧ Bytes l0 then some (decL l0) else none

def outL (pre : List (Nat × Int)) : List Int := lnL 0 (pre.map (·.2))
def lastP (pre : List (Nat × Int)) : Int := lastL 0 (pre.map (·.2))
theorem outL_snoc (pre : List (Nat × Int)) (x : Nat × Int) : outL (pre ++ [x]) = outL pre ++ ln1 (lastP pre) x.2 := by simp [outL, lastP, lnL_snoc]
theorem lastP_snoc (pre : List (Nat × Int)) (x : Nat × Int) : lastP (pre ++ [x]) = x.2 := by simp [lastP, lastL_snoc]
theorem outL_len (pre : List (Nat × Int)) : (outL pre).length ≤ pre.length := by have := lnL_len 0 (pre.map (·.2)); simpa [outL] using this

theorem strip_short {b : List Int} (h : b.length < 3) : strip b = b := by
  unfold strip
  rw [if_neg]
  intro e
  have := congrArg List.length e
  simp at this
  omega
theorem take3 {b : List Int} {x0 x1 x2 : Int} (h : 3 ≤ b.length) (h0 : rd b 0 = x0) (h1 : rd b 1 = x1) (h2 : rd b 2 = x2) : b.take 3 = [x0, x1, x2] := by
  rcases b with _ | ⟨y0, _ | ⟨y1, _ | ⟨y2, t⟩⟩⟩
  · simp at h
  · simp at h
  · simp at h
  · subst h0; subst h1; subst h2; rfl
theorem drop3_C {w : World} {ad : Addr} {b : List Int} {c0 : Nat} (h : Kd.C (Kd.int .u8) w (some ad) b.length b) (hl : 3 ≤ b.length) (hc0 : b.length ≤ c0) : Kd.C (Kd.int .u8) w (if c0 = 3 then some ad else some (ad.add 3)) (b.drop 3).length (b.drop 3) :=
  Kd.C_drop (m := 3) (c := c0) h hl hc0
theorem not_own {W : World} {B base e size k : Nat} {v : Value} {xs : List Value} (h : B < base) (hr : W.ownsRow base e size v k xs) : some B ≠ v.ownBlock := by
  rcases hr.2 with ⟨rfl, _⟩ | ⟨g, cap, cur, rfl, hb, _⟩
  · simp [Value.ownBlock]
  · simp [Value.ownBlock]; omega
theorem own_weak {W : World} {base base' e size k : Nat} {v : Value} {xs : List Value} (hr : W.ownsRow base e size v k xs) (h : base' ≤ base) : W.ownsRow base' e size v k xs := by
  obtain ⟨h0, h1 | ⟨g, cap, cur, h1, hb, h2⟩⟩ := hr
  · exact ⟨h0, .inl h1⟩
  · exact ⟨h0, .inr ⟨g, cap, cur, h1, Nat.le_trans h hb, h2⟩⟩

theorem dec_fin {w W W1 : World} {v s u : Value} {k B : Nat} {xs : List Value} (u' : Value) (hBl : Below w.heap.size w W) (hb : Below w.heap.size W W1) (hk : KeepsOthers W W1) (hv : Boxed W1 w.heap.size 38 v)
    (hr : W1.ownsRow (w.heap.size + 2) 21 1 v k xs) (hl : Boxed W1 (w.heap.size + 1) 21 u) (hn : Boxed W1 (w.heap.size + 2) 37 s) (hn0 : Boxed W (w.heap.size + 2) 37 s) :
    KeepsFrom B W (W1.setCell ⟨w.heap.size + 1, 0, none⟩ u') ∧ KpS w.heap.size (w.heap.size + 2) W (W1.setCell ⟨w.heap.size + 1, 0, none⟩ u') ∧ Boxed (W1.setCell ⟨w.heap.size + 1, 0, none⟩ u') w.heap.size 38 v
      ∧ (W1.setCell ⟨w.heap.size + 1, 0, none⟩ u').ownsRow (w.heap.size + 2) 21 1 v k xs ∧ Boxed (W1.setCell ⟨w.heap.size + 1, 0, none⟩ u') (w.heap.size + 1) 21 u' ∧ Boxed (W1.setCell ⟨w.heap.size + 1, 0, none⟩ u') (w.heap.size + 2) 37 s
      ∧ Below w.heap.size w (W1.setCell ⟨w.heap.size + 1, 0, none⟩ u') := by
  have b2 : Below w.heap.size W (W1.setCell ⟨w.heap.size + 1, 0, none⟩ u') := hb.setCell (p := ⟨w.heap.size + 1, 0, none⟩) (Nat.le_succ _) _
  have n2 := hn.other (B' := w.heap.size + 1) (by omega) u'
  refine ⟨(hk.trans (KeepsOthers.setCell _ _ _)).from _, ⟨b2, n2.trans hn0.symm⟩, hv.other (by omega) u', ?_, hl.set u', n2, hBl.trans b2⟩
  refine hr.kept (grownBy_setCell' W1 (w.heap.size + 1) u') (.inr ?_)
  exact (not_own (by omega) hr).symm

set_option maxRecDepth 100000 in
set_option maxHeartbeats 8000000 in
theorem decode_in (A0 : Option Addr) (c0 : Nat) (b : List Int) (w : World) (hr0 : Kd.C (Kd.int .u8) w A0 b.length b) (hc0 : b.length ≤ c0) (hlen : b.length < 1000000) (hB : Bytes b) :
    CallsIn Fence.wide 4 Try.prog 24 #[.slice A0 b.length c0] w fun e w' => ∃ v0_, e = .returned v0_ ∧ w'.ownsRow w.heap.size 21 1 v0_ (decL b).length ((decL b).map (Value.int .i32)) ∧ Below w.heap.size w w' := by
  obtain ⟨i0, hi, hz0, hz1, hz2⟩ := info_parts info21
  have HC := Aside0.mk hr0
  have h14 : 1 ≤ 4 := by omega
  refine callsIn_of_wp_marks Try.func24 rfl trivial ?_ rfl
  simp only [Try.ntmps24, List.size_toArray, List.length_cons, List.length_nil, Nat.reduceAdd, Nat.reduceSub, Array.replicate_succ, Array.replicate_zero, List.push_toArray, List.append_toArray, List.nil_append, List.cons_append]
  by_cases hl3 : b.length < 3
  · have hl3' : ¬ 3 ≤ b.length := by omega
    have hst := Aside0.mk (show strip b = b from strip_short hl3)
    have hlenB := hlen
    have hBB := hB
    have hcB := Aside0.mk hc0
    have HCB := HC
    clear hr0
    gi_wp2
    refine ⟨trivial, (signs_in _ _ _ _ _).mono ?_⟩
    rintro e w' ⟨rfl, rfl⟩
    gi_wp2
    have bO := Boxed.new w 38 (.slice none 0 0)
    have bL := Boxed.new (w.alloc (.cells #[.slice none 0 0] 38)) 21 (.int .i32 0)
    have bN := Boxed.new ((w.alloc (.cells #[.slice none 0 0] 38)).alloc (.cells #[.int .i32 0] 21)) 37 (.slice (A0) (b.length) (c0))
    rw [World.size_alloc] at bL
    rw [World.size_alloc, World.size_alloc] at bN
    have hB0 : Below w.heap.size w (((w.alloc (.cells #[.slice none 0 0] 38)).alloc (.cells #[.int .i32 0] 21)).alloc (.cells #[.slice (A0) (b.length) (c0)] 37)) := (((Below.refl _ w).alloc (Nat.le_refl _) _).alloc (by simp) _).alloc (by simp; omega) _
    have hL' : (b.length) = (b).length := by first | rfl | (rw [List.length_drop]; done) | (rw [List.length_drop]; omega)
    have bN' : Boxed (((w.alloc (.cells #[.slice none 0 0] 38)).alloc (.cells #[.int .i32 0] 21)).alloc (.cells #[.slice (A0) (b.length) (c0)] 37)) (w.heap.size + 1 + 1) 37 (.slice (A0) (b).length (c0)) := by rw [← hL']; exact bN
    refine wpIn_rangeFunc_ownG rfl h14 (gf := 46) (lb := #[.pointer (some ⟨w.heap.size + 1 + 1, 0, none⟩)]) rfl trivial (enters_of Try.func46 (by kernel_rfl) rfl)
      (signs_stops (4 - 1) (by omega) (w.heap.size + 1 + 1) w (A0) (c0) (b) hlenB hBB hcB.out HCB.out _ hB0 bN') (fun h k => KpS.trans h k) (kpS_b (by simp; omega) (by simp)) (Below.refl _ _) (fun _ => rfl)
      (fun pre W => ((∃ v, Boxed W w.heap.size 38 v ∧ W.ownsRow (w.heap.size + 2) 21 1 v (outL pre).length ((outL pre).map (Value.int .i32)) ∧ True) ∧ Boxed W (w.heap.size + 1) 21 (.int .i32 (lastP pre)) ∧ Boxed W (w.heap.size + 1 + 1) 37 (.slice (A0) (b).length (c0))) ∧ Below w.heap.size w W)
      (fun _ _ _ => False)
      (OwnFrom.and (OwnFrom.and (Own.from (holdsRow_own (w.heap.size + 2) w.heap.size 38 21 1 (fun pre => (outL pre).length) (fun pre => (outL pre).map (Value.int .i32)) (fun _ _ => True)) _) (OwnFrom.and (Own.from (boxed_own _ _ _) _) (Own.from (boxed_own _ _ (fun _ => .slice (A0) (b).length (c0))) _))) (ownFrom_below (Nat.le_refl _) (by simp; omega)))
      (fun _ _ _ _ _ hs _ _ => hs)
      ⟨⟨⟨_, (bO.alloc _).alloc _, World.ownsRow_nil _ _ _ _, trivial⟩, bL.alloc _, bN'⟩, hB0⟩
      (fun x => { tmps := #[.slice A0 b.length c0, undef, .slice none 0 0, .pointer (some ⟨w.heap.size, 0, none⟩), .pointer (some ⟨w.heap.size + 1, 0, none⟩), undef, .int .i32 x.2, .slice A0 b.length c0, .int .i64 b.length, .bool false, .bool false, undef, undef, undef, undef, .bool false, .bool false, undef, undef, undef, undef, .bool false, .bool false, undef, undef, undef, undef, .bool false, undef, undef, .slice A0 b.length c0, .func (.func 46) #[] #[.pointer (some ⟨w.heap.size + 1 + 1, 0, none⟩)], .int .i64 x.1, .int .i32 x.2, undef, undef, undef, undef, undef, undef, undef, undef, undef, undef, undef, undef, undef, undef, undef, undef, undef, undef, undef], defers := [] }) ?assign1 ?body1 ?done1 ?stop1
    case assign1 =>
      intro l x W K hK
      gi_wp2
      exact hK
    case body1 =>
      rintro l pre ⟨o, r⟩ W ⟨⟨⟨v, hv, hrow, _⟩, hbl, hbn⟩, hBl⟩ hlt
      have hpl : (outL pre).length < 1000000 := by have := outL_len pre; have := sg_len 0 (b); omega
      have hc := hv.cell
      have hcl := hbl.cell
      have hfl := hbl.frozen
      have hn1 := Aside0.mk (outL_snoc pre (o, r))
      have hn2 := Aside0.mk (lastP_snoc pre (o, r))
      by_cases hr13 : r = 13
      · have hr13b : (r == 13) = true := beq_iff_eq.2 hr13
        have hn3 : outL (pre ++ [(o, r)]) = outL pre ++ [10] := by rw [hn1.out]; simp [ln1, hr13]
        have hn3' := Aside0.mk hn3
        clear hn3
        have hr13' := Aside0.mk hr13
        clear hr13
        gi_wp2_with (gi_at_builtin; refine wpListIn_append_own _ rfl _ _ 38 rfl (w.heap.size + 2) 21 i0 (.int .i32 0) 1 4 Try.underlying38 hi hz0 hz1 hz2 rfl (by decide) _ _ _ rfl (hrow.alloc _) ⟨W.heap.size, 0, none⟩ 1 1 [.int .i32 10] rfl rfl (cell_one_new _ _ _) (by simp [Value.oneCell']) (by simp only [maxLen]; omega) (by omega) (by have := hbn.lt; simp; omega) ?_; intro v' w1 hown' hgrow _; obtain ⟨g', cap', rfl⟩ := ownsRow_succ hown'; have hnb := (hbn.alloc (.cells #[.int .i32 10] 21)).kept hgrow (hbn.not_row (by decide) hrow); have hnl := (hbl.alloc (.cells #[.int .i32 10] 21)).kept hgrow (not_own (B := w.heap.size + 1) (by omega) hrow); obtain ⟨hv1, hv2, hr2, hk2, hb2⟩ := hv.appended (n₀ := w.heap.size) (by decide) (own_weak hrow (by omega)) hBl.size (Nat.le_refl _) (own_weak hown' (by omega)) hgrow; have hr3 := hown'.kept (grownBy_setCell' w1 w.heap.size (Value.slice (some ⟨g', 0, none⟩) ((outL pre).length + 1) cap')) (.inr (hv1.not_row (by decide) hown').symm); have hbl1 := hnl.other (B' := w.heap.size) (by omega) (Value.slice (some ⟨g', 0, none⟩) ((outL pre).length + 1) cap'); have hbn1 := hnb.other (B' := w.heap.size) (by omega) (Value.slice (some ⟨g', 0, none⟩) ((outL pre).length + 1) cap'); have hc1 := hv1.cell; have hf1 := hv1.frozen; have hcl1 := (hnl.other (B' := w.heap.size) (by omega) (Value.slice (some ⟨g', 0, none⟩) ((outL pre).length + 1) cap')).cell; have hfl1 := (hnl.other (B' := w.heap.size) (by omega) (Value.slice (some ⟨g', 0, none⟩) ((outL pre).length + 1) cap')).frozen)
        obtain ⟨f1, f2, f3, f4, f5, f6, f7⟩ := dec_fin (B := w.heap.size + 1 + 1 + 1) (.int .i32 r) hBl hb2 hk2 hv2 hr3 hbl1 hbn1 hbn
        exact ⟨f1, f2, ⟨⟨_, f3, by rw [hn3'.out, List.length_append, List.map_append]; exact f4⟩, by rw [hn2.out]; exact f5, f6⟩, f7⟩
      · have hr13b : (r == 13) = false := beq_eq_false_iff_ne.2 hr13
        by_cases hr10 : r = 10
        · have hr10b : (r == 10) = true := beq_iff_eq.2 hr10
          by_cases hp13 : lastP pre = 13
          · have hp13b : (lastP pre == 13) = true := beq_iff_eq.2 hp13
            have hn3' := Aside0.mk (show outL (pre ++ [(o, r)]) = outL pre from by rw [hn1.out]; simp [ln1, hr10, hp13])
            clear hr13 hr10 hp13
            gi_wp2
            obtain ⟨f1, f2, f3, f4, f5, f6, f7⟩ := dec_fin (B := w.heap.size + 1 + 1 + 1) (.int .i32 r) hBl (Below.refl _ _) (KeepsOthers.refl _) hv hrow hbl hbn hbn
            exact ⟨f1, f2, ⟨⟨_, f3, by rw [hn3'.out]; exact f4⟩, by rw [hn2.out]; exact f5, f6⟩, f7⟩
          · have hp13b : (lastP pre == 13) = false := beq_eq_false_iff_ne.2 hp13
            have hn3' := Aside0.mk (show outL (pre ++ [(o, r)]) = outL pre ++ [r] from by rw [hn1.out]; simp [ln1, hr10, hp13])
            clear hr13 hr10 hp13
            gi_wp2_with (gi_at_builtin; refine wpListIn_append_own _ rfl _ _ 38 rfl (w.heap.size + 2) 21 i0 (.int .i32 0) 1 4 Try.underlying38 hi hz0 hz1 hz2 rfl (by decide) _ _ _ rfl (hrow.alloc _) ⟨W.heap.size, 0, none⟩ 1 1 [.int .i32 r] rfl rfl (cell_one_new _ _ _) (by simp [Value.oneCell']) (by simp only [maxLen]; omega) (by omega) (by have := hbn.lt; simp; omega) ?_; intro v' w1 hown' hgrow _; obtain ⟨g', cap', rfl⟩ := ownsRow_succ hown'; have hnb := (hbn.alloc (.cells #[.int .i32 r] 21)).kept hgrow (hbn.not_row (by decide) hrow); have hnl := (hbl.alloc (.cells #[.int .i32 r] 21)).kept hgrow (not_own (B := w.heap.size + 1) (by omega) hrow); obtain ⟨hv1, hv2, hr2, hk2, hb2⟩ := hv.appended (n₀ := w.heap.size) (by decide) (own_weak hrow (by omega)) hBl.size (Nat.le_refl _) (own_weak hown' (by omega)) hgrow; have hr3 := hown'.kept (grownBy_setCell' w1 w.heap.size (Value.slice (some ⟨g', 0, none⟩) ((outL pre).length + 1) cap')) (.inr (hv1.not_row (by decide) hown').symm); have hbl1 := hnl.other (B' := w.heap.size) (by omega) (Value.slice (some ⟨g', 0, none⟩) ((outL pre).length + 1) cap'); have hbn1 := hnb.other (B' := w.heap.size) (by omega) (Value.slice (some ⟨g', 0, none⟩) ((outL pre).length + 1) cap'); have hc1 := hv1.cell; have hf1 := hv1.frozen; have hcl1 := (hnl.other (B' := w.heap.size) (by omega) (Value.slice (some ⟨g', 0, none⟩) ((outL pre).length + 1) cap')).cell; have hfl1 := (hnl.other (B' := w.heap.size) (by omega) (Value.slice (some ⟨g', 0, none⟩) ((outL pre).length + 1) cap')).frozen)
            obtain ⟨f1, f2, f3, f4, f5, f6, f7⟩ := dec_fin (B := w.heap.size + 1 + 1 + 1) (.int .i32 r) hBl hb2 hk2 hv2 hr3 hbl1 hbn1 hbn
            exact ⟨f1, f2, ⟨⟨_, f3, by rw [hn3'.out, List.length_append, List.map_append]; exact f4⟩, by rw [hn2.out]; exact f5, f6⟩, f7⟩
        · have hr10b : (r == 10) = false := beq_eq_false_iff_ne.2 hr10
          have hn3' := Aside0.mk (show outL (pre ++ [(o, r)]) = outL pre ++ [r] from by rw [hn1.out]; simp [ln1, hr10, hr13])
          clear hr13 hr10
          gi_wp2_with (gi_at_builtin; refine wpListIn_append_own _ rfl _ _ 38 rfl (w.heap.size + 2) 21 i0 (.int .i32 0) 1 4 Try.underlying38 hi hz0 hz1 hz2 rfl (by decide) _ _ _ rfl (hrow.alloc _) ⟨W.heap.size, 0, none⟩ 1 1 [.int .i32 r] rfl rfl (cell_one_new _ _ _) (by simp [Value.oneCell']) (by simp only [maxLen]; omega) (by omega) (by have := hbn.lt; simp; omega) ?_; intro v' w1 hown' hgrow _; obtain ⟨g', cap', rfl⟩ := ownsRow_succ hown'; have hnb := (hbn.alloc (.cells #[.int .i32 r] 21)).kept hgrow (hbn.not_row (by decide) hrow); have hnl := (hbl.alloc (.cells #[.int .i32 r] 21)).kept hgrow (not_own (B := w.heap.size + 1) (by omega) hrow); obtain ⟨hv1, hv2, hr2, hk2, hb2⟩ := hv.appended (n₀ := w.heap.size) (by decide) (own_weak hrow (by omega)) hBl.size (Nat.le_refl _) (own_weak hown' (by omega)) hgrow; have hr3 := hown'.kept (grownBy_setCell' w1 w.heap.size (Value.slice (some ⟨g', 0, none⟩) ((outL pre).length + 1) cap')) (.inr (hv1.not_row (by decide) hown').symm); have hbl1 := hnl.other (B' := w.heap.size) (by omega) (Value.slice (some ⟨g', 0, none⟩) ((outL pre).length + 1) cap'); have hbn1 := hnb.other (B' := w.heap.size) (by omega) (Value.slice (some ⟨g', 0, none⟩) ((outL pre).length + 1) cap'); have hc1 := hv1.cell; have hf1 := hv1.frozen; have hcl1 := (hnl.other (B' := w.heap.size) (by omega) (Value.slice (some ⟨g', 0, none⟩) ((outL pre).length + 1) cap')).cell; have hfl1 := (hnl.other (B' := w.heap.size) (by omega) (Value.slice (some ⟨g', 0, none⟩) ((outL pre).length + 1) cap')).frozen)
          obtain ⟨f1, f2, f3, f4, f5, f6, f7⟩ := dec_fin (B := w.heap.size + 1 + 1 + 1) (.int .i32 r) hBl hb2 hk2 hv2 hr3 hbl1 hbn1 hbn
          exact ⟨f1, f2, ⟨⟨_, f3, by rw [hn3'.out, List.length_append, List.map_append]; exact f4⟩, by rw [hn2.out]; exact f5, f6⟩, f7⟩
    case done1 =>
      rintro D ys W hD rfl ⟨⟨⟨v, hv, hrow, _⟩, hbl, hbn⟩, hBl⟩ hK
      have hc := hv.cell
      gi_wp2
      refine ⟨by simp, .inl ⟨_, _, rfl, run_takeDeferred hK, ?_⟩⟩
      refine ⟨_, results_tmp rfl _ _ _, v, rfl, ?_, hBl.trans (belowK_b (w := w) (Nat.le_refl _) W D _ _ (by simp at hD; omega) hK rfl rfl)⟩
      have hdec : decL b = outL (sg 0 (b)) := by rw [decL, hst.out]; rfl
      rw [hdec]
      exact ownsRow_putObj (own_weak hrow (by omega)) _ hK rfl
    case stop1 =>
      rintro D c pre W _ _ h _
      exact h.elim
  · have hl3' : 3 ≤ b.length := by omega
    have hb0 : 0 < b.length := by omega
    have hb1 : 1 < b.length := by omega
    have hb2 : 2 < b.length := by omega
    obtain ⟨ad, eA, h0⟩ := Kd.at_int hr0 0 (by omega) (by omega)
    subst eA
    obtain ⟨ad1, e1, h1⟩ := Kd.at_int hr0 1 (by omega) (by omega)
    obtain rfl : ad = ad1 := by injection e1
    obtain ⟨ad2, e2, h2⟩ := Kd.at_int hr0 2 (by omega) (by omega)
    obtain rfl : ad = ad2 := by injection e2
    clear e1 e2
    rw [show ((0 : Int)).toNat = 0 from rfl, Addr.add_zero'] at h0
    rw [show ((1 : Int)).toNat = 1 from rfl] at h1
    rw [show ((2 : Int)).toNat = 2 from rfl] at h2
    obtain ⟨x0, hx0⟩ : ∃ x, rd b 0 = x := ⟨_, rfl⟩
    obtain ⟨x1, hx1⟩ : ∃ x, rd b 1 = x := ⟨_, rfl⟩
    obtain ⟨x2, hx2⟩ : ∃ x, rd b 2 = x := ⟨_, rfl⟩
    simp only [Nat.reduceEqDiff, Go.Addr.add, ↓reduceIte] at h1 h2
    rw [hx0] at h0
    rw [hx1] at h1
    rw [hx2] at h2
    have htk := Aside0.mk (take3 hl3' hx0 hx1 hx2)
    clear hx0 hx1 hx2 hr0
    by_cases q0 : x0 = 239
    · have q0b : (x0 == 239) = true := beq_iff_eq.2 q0
      by_cases q1 : x1 = 187
      · have q1b : (x1 == 187) = true := beq_iff_eq.2 q1
        by_cases q2 : x2 = 191
        · have q2b : (x2 == 191) = true := beq_iff_eq.2 q2
          have hst := Aside0.mk (show strip b = b.drop 3 from by rw [strip, htk.out, if_pos (by simp [q0, q1, q2])])
          obtain ⟨bb, hbb⟩ : ∃ bb, bb = b.drop 3 := ⟨_, rfl⟩
          have hlb : b.length - 3 = bb.length := by rw [hbb, List.length_drop]
          have hlenB : bb.length < 1000000 := by omega
          have hBB := hB.drop 3
          have HCB0 := drop3_C HC.out hl3' hc0
          rw [← hbb] at hst hBB HCB0
          clear q0 q1 q2 hbb
          by_cases hc3 : c0 = 3
          · subst hc3
            have hcB := Aside0.mk (show bb.length ≤ 0 by omega)
            rw [if_pos rfl] at HCB0
            have HCB := Aside0.mk HCB0
            clear HCB0 hc0
            gi_wp2
            refine ⟨trivial, (signs_in _ _ _ _ _).mono ?_⟩
            rintro e w' ⟨rfl, rfl⟩
            gi_wp2
            have bO := Boxed.new w 38 (.slice none 0 0)
            have bL := Boxed.new (w.alloc (.cells #[.slice none 0 0] 38)) 21 (.int .i32 0)
            have bN := Boxed.new ((w.alloc (.cells #[.slice none 0 0] 38)).alloc (.cells #[.int .i32 0] 21)) 37 (.slice (some ad) (bb.length) (0))
            rw [World.size_alloc] at bL
            rw [World.size_alloc, World.size_alloc] at bN
            have hB0 : Below w.heap.size w (((w.alloc (.cells #[.slice none 0 0] 38)).alloc (.cells #[.int .i32 0] 21)).alloc (.cells #[.slice (some ad) (bb.length) (0)] 37)) := (((Below.refl _ w).alloc (Nat.le_refl _) _).alloc (by simp) _).alloc (by simp; omega) _
            have hL' : (bb.length) = (bb).length := by first | rfl | (rw [List.length_drop]; done) | (rw [List.length_drop]; omega)
            have bN' : Boxed (((w.alloc (.cells #[.slice none 0 0] 38)).alloc (.cells #[.int .i32 0] 21)).alloc (.cells #[.slice (some ad) (bb.length) (0)] 37)) (w.heap.size + 1 + 1) 37 (.slice (some ad) (bb).length (0)) := by rw [← hL']; exact bN
            refine wpIn_rangeFunc_ownG rfl h14 (gf := 46) (lb := #[.pointer (some ⟨w.heap.size + 1 + 1, 0, none⟩)]) rfl trivial (enters_of Try.func46 (by kernel_rfl) rfl)
              (signs_stops (4 - 1) (by omega) (w.heap.size + 1 + 1) w (some ad) (0) (bb) hlenB hBB hcB.out HCB.out _ hB0 bN') (fun h k => KpS.trans h k) (kpS_b (by simp; omega) (by simp)) (Below.refl _ _) (fun _ => rfl)
              (fun pre W => ((∃ v, Boxed W w.heap.size 38 v ∧ W.ownsRow (w.heap.size + 2) 21 1 v (outL pre).length ((outL pre).map (Value.int .i32)) ∧ True) ∧ Boxed W (w.heap.size + 1) 21 (.int .i32 (lastP pre)) ∧ Boxed W (w.heap.size + 1 + 1) 37 (.slice (some ad) (bb).length (0))) ∧ Below w.heap.size w W)
              (fun _ _ _ => False)
              (OwnFrom.and (OwnFrom.and (Own.from (holdsRow_own (w.heap.size + 2) w.heap.size 38 21 1 (fun pre => (outL pre).length) (fun pre => (outL pre).map (Value.int .i32)) (fun _ _ => True)) _) (OwnFrom.and (Own.from (boxed_own _ _ _) _) (Own.from (boxed_own _ _ (fun _ => .slice (some ad) (bb).length (0))) _))) (ownFrom_below (Nat.le_refl _) (by simp; omega)))
              (fun _ _ _ _ _ hs _ _ => hs)
              ⟨⟨⟨_, (bO.alloc _).alloc _, World.ownsRow_nil _ _ _ _, trivial⟩, bL.alloc _, bN'⟩, hB0⟩
              (fun x => { tmps := #[.slice (some ad) bb.length 0, undef, .slice none 0 0, .pointer (some ⟨w.heap.size, 0, none⟩), .pointer (some ⟨w.heap.size + 1, 0, none⟩), undef, .int .i32 x.2, .slice (some ad) b.length 3, .int .i64 b.length, .bool true, .bool true, .slice (some ad) b.length 3, .pointer (some ad), .int .u8 x0, .bool true, .bool true, .bool true, .slice (some ad) b.length 3, .pointer (some ⟨ad.block, ad.off + 1, none⟩), .int .u8 x1, .bool true, .bool true, .bool true, .slice (some ad) b.length 3, .pointer (some ⟨ad.block, ad.off + 2, none⟩), .int .u8 x2, .bool true, .bool true, .slice (some ad) b.length 3, .slice (some ad) bb.length 0, .slice (some ad) bb.length 0, .func (.func 46) #[] #[.pointer (some ⟨w.heap.size + 1 + 1, 0, none⟩)], .int .i64 x.1, .int .i32 x.2, undef, undef, undef, undef, undef, undef, undef, undef, undef, undef, undef, undef, undef, undef, undef, undef, undef, undef, undef], defers := [] }) ?assign2 ?body2 ?done2 ?stop2
            case assign2 =>
              intro l x W K hK
              gi_wp2
              exact hK
            case body2 =>
              rintro l pre ⟨o, r⟩ W ⟨⟨⟨v, hv, hrow, _⟩, hbl, hbn⟩, hBl⟩ hlt
              have hpl : (outL pre).length < 1000000 := by have := outL_len pre; have := sg_len 0 (bb); omega
              have hc := hv.cell
              have hcl := hbl.cell
              have hfl := hbl.frozen
              have hn1 := Aside0.mk (outL_snoc pre (o, r))
              have hn2 := Aside0.mk (lastP_snoc pre (o, r))
              by_cases hr13 : r = 13
              · have hr13b : (r == 13) = true := beq_iff_eq.2 hr13
                have hn3 : outL (pre ++ [(o, r)]) = outL pre ++ [10] := by rw [hn1.out]; simp [ln1, hr13]
                have hn3' := Aside0.mk hn3
                clear hn3
                have hr13' := Aside0.mk hr13
                clear hr13
                gi_wp2_with (gi_at_builtin; refine wpListIn_append_own _ rfl _ _ 38 rfl (w.heap.size + 2) 21 i0 (.int .i32 0) 1 4 Try.underlying38 hi hz0 hz1 hz2 rfl (by decide) _ _ _ rfl (hrow.alloc _) ⟨W.heap.size, 0, none⟩ 1 1 [.int .i32 10] rfl rfl (cell_one_new _ _ _) (by simp [Value.oneCell']) (by simp only [maxLen]; omega) (by omega) (by have := hbn.lt; simp; omega) ?_; intro v' w1 hown' hgrow _; obtain ⟨g', cap', rfl⟩ := ownsRow_succ hown'; have hnb := (hbn.alloc (.cells #[.int .i32 10] 21)).kept hgrow (hbn.not_row (by decide) hrow); have hnl := (hbl.alloc (.cells #[.int .i32 10] 21)).kept hgrow (not_own (B := w.heap.size + 1) (by omega) hrow); obtain ⟨hv1, hv2, hr2, hk2, hb2⟩ := hv.appended (n₀ := w.heap.size) (by decide) (own_weak hrow (by omega)) hBl.size (Nat.le_refl _) (own_weak hown' (by omega)) hgrow; have hr3 := hown'.kept (grownBy_setCell' w1 w.heap.size (Value.slice (some ⟨g', 0, none⟩) ((outL pre).length + 1) cap')) (.inr (hv1.not_row (by decide) hown').symm); have hbl1 := hnl.other (B' := w.heap.size) (by omega) (Value.slice (some ⟨g', 0, none⟩) ((outL pre).length + 1) cap'); have hbn1 := hnb.other (B' := w.heap.size) (by omega) (Value.slice (some ⟨g', 0, none⟩) ((outL pre).length + 1) cap'); have hc1 := hv1.cell; have hf1 := hv1.frozen; have hcl1 := (hnl.other (B' := w.heap.size) (by omega) (Value.slice (some ⟨g', 0, none⟩) ((outL pre).length + 1) cap')).cell; have hfl1 := (hnl.other (B' := w.heap.size) (by omega) (Value.slice (some ⟨g', 0, none⟩) ((outL pre).length + 1) cap')).frozen)
                obtain ⟨f1, f2, f3, f4, f5, f6, f7⟩ := dec_fin (B := w.heap.size + 1 + 1 + 1) (.int .i32 r) hBl hb2 hk2 hv2 hr3 hbl1 hbn1 hbn
                exact ⟨f1, f2, ⟨⟨_, f3, by rw [hn3'.out, List.length_append, List.map_append]; exact f4⟩, by rw [hn2.out]; exact f5, f6⟩, f7⟩
              · have hr13b : (r == 13) = false := beq_eq_false_iff_ne.2 hr13
                by_cases hr10 : r = 10
                · have hr10b : (r == 10) = true := beq_iff_eq.2 hr10
                  by_cases hp13 : lastP pre = 13
                  · have hp13b : (lastP pre == 13) = true := beq_iff_eq.2 hp13
                    have hn3' := Aside0.mk (show outL (pre ++ [(o, r)]) = outL pre from by rw [hn1.out]; simp [ln1, hr10, hp13])
                    clear hr13 hr10 hp13
                    gi_wp2
                    obtain ⟨f1, f2, f3, f4, f5, f6, f7⟩ := dec_fin (B := w.heap.size + 1 + 1 + 1) (.int .i32 r) hBl (Below.refl _ _) (KeepsOthers.refl _) hv hrow hbl hbn hbn
                    exact ⟨f1, f2, ⟨⟨_, f3, by rw [hn3'.out]; exact f4⟩, by rw [hn2.out]; exact f5, f6⟩, f7⟩
                  · have hp13b : (lastP pre == 13) = false := beq_eq_false_iff_ne.2 hp13
                    have hn3' := Aside0.mk (show outL (pre ++ [(o, r)]) = outL pre ++ [r] from by rw [hn1.out]; simp [ln1, hr10, hp13])
                    clear hr13 hr10 hp13
                    gi_wp2_with (gi_at_builtin; refine wpListIn_append_own _ rfl _ _ 38 rfl (w.heap.size + 2) 21 i0 (.int .i32 0) 1 4 Try.underlying38 hi hz0 hz1 hz2 rfl (by decide) _ _ _ rfl (hrow.alloc _) ⟨W.heap.size, 0, none⟩ 1 1 [.int .i32 r] rfl rfl (cell_one_new _ _ _) (by simp [Value.oneCell']) (by simp only [maxLen]; omega) (by omega) (by have := hbn.lt; simp; omega) ?_; intro v' w1 hown' hgrow _; obtain ⟨g', cap', rfl⟩ := ownsRow_succ hown'; have hnb := (hbn.alloc (.cells #[.int .i32 r] 21)).kept hgrow (hbn.not_row (by decide) hrow); have hnl := (hbl.alloc (.cells #[.int .i32 r] 21)).kept hgrow (not_own (B := w.heap.size + 1) (by omega) hrow); obtain ⟨hv1, hv2, hr2, hk2, hb2⟩ := hv.appended (n₀ := w.heap.size) (by decide) (own_weak hrow (by omega)) hBl.size (Nat.le_refl _) (own_weak hown' (by omega)) hgrow; have hr3 := hown'.kept (grownBy_setCell' w1 w.heap.size (Value.slice (some ⟨g', 0, none⟩) ((outL pre).length + 1) cap')) (.inr (hv1.not_row (by decide) hown').symm); have hbl1 := hnl.other (B' := w.heap.size) (by omega) (Value.slice (some ⟨g', 0, none⟩) ((outL pre).length + 1) cap'); have hbn1 := hnb.other (B' := w.heap.size) (by omega) (Value.slice (some ⟨g', 0, none⟩) ((outL pre).length + 1) cap'); have hc1 := hv1.cell; have hf1 := hv1.frozen; have hcl1 := (hnl.other (B' := w.heap.size) (by omega) (Value.slice (some ⟨g', 0, none⟩) ((outL pre).length + 1) cap')).cell; have hfl1 := (hnl.other (B' := w.heap.size) (by omega) (Value.slice (some ⟨g', 0, none⟩) ((outL pre).length + 1) cap')).frozen)
                    obtain ⟨f1, f2, f3, f4, f5, f6, f7⟩ := dec_fin (B := w.heap.size + 1 + 1 + 1) (.int .i32 r) hBl hb2 hk2 hv2 hr3 hbl1 hbn1 hbn
                    exact ⟨f1, f2, ⟨⟨_, f3, by rw [hn3'.out, List.length_append, List.map_append]; exact f4⟩, by rw [hn2.out]; exact f5, f6⟩, f7⟩
                · have hr10b : (r == 10) = false := beq_eq_false_iff_ne.2 hr10
                  have hn3' := Aside0.mk (show outL (pre ++ [(o, r)]) = outL pre ++ [r] from by rw [hn1.out]; simp [ln1, hr10, hr13])
                  clear hr13 hr10
                  gi_wp2_with (gi_at_builtin; refine wpListIn_append_own _ rfl _ _ 38 rfl (w.heap.size + 2) 21 i0 (.int .i32 0) 1 4 Try.underlying38 hi hz0 hz1 hz2 rfl (by decide) _ _ _ rfl (hrow.alloc _) ⟨W.heap.size, 0, none⟩ 1 1 [.int .i32 r] rfl rfl (cell_one_new _ _ _) (by simp [Value.oneCell']) (by simp only [maxLen]; omega) (by omega) (by have := hbn.lt; simp; omega) ?_; intro v' w1 hown' hgrow _; obtain ⟨g', cap', rfl⟩ := ownsRow_succ hown'; have hnb := (hbn.alloc (.cells #[.int .i32 r] 21)).kept hgrow (hbn.not_row (by decide) hrow); have hnl := (hbl.alloc (.cells #[.int .i32 r] 21)).kept hgrow (not_own (B := w.heap.size + 1) (by omega) hrow); obtain ⟨hv1, hv2, hr2, hk2, hb2⟩ := hv.appended (n₀ := w.heap.size) (by decide) (own_weak hrow (by omega)) hBl.size (Nat.le_refl _) (own_weak hown' (by omega)) hgrow; have hr3 := hown'.kept (grownBy_setCell' w1 w.heap.size (Value.slice (some ⟨g', 0, none⟩) ((outL pre).length + 1) cap')) (.inr (hv1.not_row (by decide) hown').symm); have hbl1 := hnl.other (B' := w.heap.size) (by omega) (Value.slice (some ⟨g', 0, none⟩) ((outL pre).length + 1) cap'); have hbn1 := hnb.other (B' := w.heap.size) (by omega) (Value.slice (some ⟨g', 0, none⟩) ((outL pre).length + 1) cap'); have hc1 := hv1.cell; have hf1 := hv1.frozen; have hcl1 := (hnl.other (B' := w.heap.size) (by omega) (Value.slice (some ⟨g', 0, none⟩) ((outL pre).length + 1) cap')).cell; have hfl1 := (hnl.other (B' := w.heap.size) (by omega) (Value.slice (some ⟨g', 0, none⟩) ((outL pre).length + 1) cap')).frozen)
                  obtain ⟨f1, f2, f3, f4, f5, f6, f7⟩ := dec_fin (B := w.heap.size + 1 + 1 + 1) (.int .i32 r) hBl hb2 hk2 hv2 hr3 hbl1 hbn1 hbn
                  exact ⟨f1, f2, ⟨⟨_, f3, by rw [hn3'.out, List.length_append, List.map_append]; exact f4⟩, by rw [hn2.out]; exact f5, f6⟩, f7⟩
            case done2 =>
              rintro D ys W hD rfl ⟨⟨⟨v, hv, hrow, _⟩, hbl, hbn⟩, hBl⟩ hK
              have hc := hv.cell
              gi_wp2
              refine ⟨by simp, .inl ⟨_, _, rfl, run_takeDeferred hK, ?_⟩⟩
              refine ⟨_, results_tmp rfl _ _ _, v, rfl, ?_, hBl.trans (belowK_b (w := w) (Nat.le_refl _) W D _ _ (by simp at hD; omega) hK rfl rfl)⟩
              have hdec : decL b = outL (sg 0 (bb)) := by rw [decL, hst.out]; rfl
              rw [hdec]
              exact ownsRow_putObj (own_weak hrow (by omega)) _ hK rfl
            case stop2 =>
              rintro D c pre W _ _ h _
              exact h.elim
          · have hcB := Aside0.mk (show bb.length ≤ c0 - 3 by omega)
            rw [if_neg hc3] at HCB0
            simp only [Nat.reduceEqDiff, Go.Addr.add, ↓reduceIte] at HCB0
            have HCB := Aside0.mk HCB0
            clear HCB0
            gi_wp2
            refine ⟨trivial, (signs_in _ _ _ _ _).mono ?_⟩
            rintro e w' ⟨rfl, rfl⟩
            gi_wp2
            have bO := Boxed.new w 38 (.slice none 0 0)
            have bL := Boxed.new (w.alloc (.cells #[.slice none 0 0] 38)) 21 (.int .i32 0)
            have bN := Boxed.new ((w.alloc (.cells #[.slice none 0 0] 38)).alloc (.cells #[.int .i32 0] 21)) 37 (.slice (some ⟨ad.block, ad.off + 3, none⟩) (bb.length) (c0 - 3))
            rw [World.size_alloc] at bL
            rw [World.size_alloc, World.size_alloc] at bN
            have hB0 : Below w.heap.size w (((w.alloc (.cells #[.slice none 0 0] 38)).alloc (.cells #[.int .i32 0] 21)).alloc (.cells #[.slice (some ⟨ad.block, ad.off + 3, none⟩) (bb.length) (c0 - 3)] 37)) := (((Below.refl _ w).alloc (Nat.le_refl _) _).alloc (by simp) _).alloc (by simp; omega) _
            have hL' : (bb.length) = (bb).length := by first | rfl | (rw [List.length_drop]; done) | (rw [List.length_drop]; omega)
            have bN' : Boxed (((w.alloc (.cells #[.slice none 0 0] 38)).alloc (.cells #[.int .i32 0] 21)).alloc (.cells #[.slice (some ⟨ad.block, ad.off + 3, none⟩) (bb.length) (c0 - 3)] 37)) (w.heap.size + 1 + 1) 37 (.slice (some ⟨ad.block, ad.off + 3, none⟩) (bb).length (c0 - 3)) := by rw [← hL']; exact bN
            refine wpIn_rangeFunc_ownG rfl h14 (gf := 46) (lb := #[.pointer (some ⟨w.heap.size + 1 + 1, 0, none⟩)]) rfl trivial (enters_of Try.func46 (by kernel_rfl) rfl)
              (signs_stops (4 - 1) (by omega) (w.heap.size + 1 + 1) w (some ⟨ad.block, ad.off + 3, none⟩) (c0 - 3) (bb) hlenB hBB hcB.out HCB.out _ hB0 bN') (fun h k => KpS.trans h k) (kpS_b (by simp; omega) (by simp)) (Below.refl _ _) (fun _ => rfl)
              (fun pre W => ((∃ v, Boxed W w.heap.size 38 v ∧ W.ownsRow (w.heap.size + 2) 21 1 v (outL pre).length ((outL pre).map (Value.int .i32)) ∧ True) ∧ Boxed W (w.heap.size + 1) 21 (.int .i32 (lastP pre)) ∧ Boxed W (w.heap.size + 1 + 1) 37 (.slice (some ⟨ad.block, ad.off + 3, none⟩) (bb).length (c0 - 3))) ∧ Below w.heap.size w W)
              (fun _ _ _ => False)
              (OwnFrom.and (OwnFrom.and (Own.from (holdsRow_own (w.heap.size + 2) w.heap.size 38 21 1 (fun pre => (outL pre).length) (fun pre => (outL pre).map (Value.int .i32)) (fun _ _ => True)) _) (OwnFrom.and (Own.from (boxed_own _ _ _) _) (Own.from (boxed_own _ _ (fun _ => .slice (some ⟨ad.block, ad.off + 3, none⟩) (bb).length (c0 - 3))) _))) (ownFrom_below (Nat.le_refl _) (by simp; omega)))
              (fun _ _ _ _ _ hs _ _ => hs)
              ⟨⟨⟨_, (bO.alloc _).alloc _, World.ownsRow_nil _ _ _ _, trivial⟩, bL.alloc _, bN'⟩, hB0⟩
              (fun x => { tmps := #[.slice (some ⟨ad.block, ad.off + 3, none⟩) bb.length (c0 - 3), undef, .slice none 0 0, .pointer (some ⟨w.heap.size, 0, none⟩), .pointer (some ⟨w.heap.size + 1, 0, none⟩), undef, .int .i32 x.2, .slice (some ad) b.length c0, .int .i64 b.length, .bool true, .bool true, .slice (some ad) b.length c0, .pointer (some ad), .int .u8 x0, .bool true, .bool true, .bool true, .slice (some ad) b.length c0, .pointer (some ⟨ad.block, ad.off + 1, none⟩), .int .u8 x1, .bool true, .bool true, .bool true, .slice (some ad) b.length c0, .pointer (some ⟨ad.block, ad.off + 2, none⟩), .int .u8 x2, .bool true, .bool true, .slice (some ad) b.length c0, .slice (some ⟨ad.block, ad.off + 3, none⟩) bb.length (c0 - 3), .slice (some ⟨ad.block, ad.off + 3, none⟩) bb.length (c0 - 3), .func (.func 46) #[] #[.pointer (some ⟨w.heap.size + 1 + 1, 0, none⟩)], .int .i64 x.1, .int .i32 x.2, undef, undef, undef, undef, undef, undef, undef, undef, undef, undef, undef, undef, undef, undef, undef, undef, undef, undef, undef], defers := [] }) ?assign3 ?body3 ?done3 ?stop3
            case assign3 =>
              intro l x W K hK
              gi_wp2
              exact hK
            case body3 =>
              rintro l pre ⟨o, r⟩ W ⟨⟨⟨v, hv, hrow, _⟩, hbl, hbn⟩, hBl⟩ hlt
              have hpl : (outL pre).length < 1000000 := by have := outL_len pre; have := sg_len 0 (bb); omega
              have hc := hv.cell
              have hcl := hbl.cell
              have hfl := hbl.frozen
              have hn1 := Aside0.mk (outL_snoc pre (o, r))
              have hn2 := Aside0.mk (lastP_snoc pre (o, r))
              by_cases hr13 : r = 13
              · have hr13b : (r == 13) = true := beq_iff_eq.2 hr13
                have hn3 : outL (pre ++ [(o, r)]) = outL pre ++ [10] := by rw [hn1.out]; simp [ln1, hr13]
                have hn3' := Aside0.mk hn3
                clear hn3
                have hr13' := Aside0.mk hr13
                clear hr13
                gi_wp2_with (gi_at_builtin; refine wpListIn_append_own _ rfl _ _ 38 rfl (w.heap.size + 2) 21 i0 (.int .i32 0) 1 4 Try.underlying38 hi hz0 hz1 hz2 rfl (by decide) _ _ _ rfl (hrow.alloc _) ⟨W.heap.size, 0, none⟩ 1 1 [.int .i32 10] rfl rfl (cell_one_new _ _ _) (by simp [Value.oneCell']) (by simp only [maxLen]; omega) (by omega) (by have := hbn.lt; simp; omega) ?_; intro v' w1 hown' hgrow _; obtain ⟨g', cap', rfl⟩ := ownsRow_succ hown'; have hnb := (hbn.alloc (.cells #[.int .i32 10] 21)).kept hgrow (hbn.not_row (by decide) hrow); have hnl := (hbl.alloc (.cells #[.int .i32 10] 21)).kept hgrow (not_own (B := w.heap.size + 1) (by omega) hrow); obtain ⟨hv1, hv2, hr2, hk2, hb2⟩ := hv.appended (n₀ := w.heap.size) (by decide) (own_weak hrow (by omega)) hBl.size (Nat.le_refl _) (own_weak hown' (by omega)) hgrow; have hr3 := hown'.kept (grownBy_setCell' w1 w.heap.size (Value.slice (some ⟨g', 0, none⟩) ((outL pre).length + 1) cap')) (.inr (hv1.not_row (by decide) hown').symm); have hbl1 := hnl.other (B' := w.heap.size) (by omega) (Value.slice (some ⟨g', 0, none⟩) ((outL pre).length + 1) cap'); have hbn1 := hnb.other (B' := w.heap.size) (by omega) (Value.slice (some ⟨g', 0, none⟩) ((outL pre).length + 1) cap'); have hc1 := hv1.cell; have hf1 := hv1.frozen; have hcl1 := (hnl.other (B' := w.heap.size) (by omega) (Value.slice (some ⟨g', 0, none⟩) ((outL pre).length + 1) cap')).cell; have hfl1 := (hnl.other (B' := w.heap.size) (by omega) (Value.slice (some ⟨g', 0, none⟩) ((outL pre).length + 1) cap')).frozen)
                obtain ⟨f1, f2, f3, f4, f5, f6, f7⟩ := dec_fin (B := w.heap.size + 1 + 1 + 1) (.int .i32 r) hBl hb2 hk2 hv2 hr3 hbl1 hbn1 hbn
                exact ⟨f1, f2, ⟨⟨_, f3, by rw [hn3'.out, List.length_append, List.map_append]; exact f4⟩, by rw [hn2.out]; exact f5, f6⟩, f7⟩
              · have hr13b : (r == 13) = false := beq_eq_false_iff_ne.2 hr13
                by_cases hr10 : r = 10
                · have hr10b : (r == 10) = true := beq_iff_eq.2 hr10
                  by_cases hp13 : lastP pre = 13
                  · have hp13b : (lastP pre == 13) = true := beq_iff_eq.2 hp13
                    have hn3' := Aside0.mk (show outL (pre ++ [(o, r)]) = outL pre from by rw [hn1.out]; simp [ln1, hr10, hp13])
                    clear hr13 hr10 hp13
                    gi_wp2
                    obtain ⟨f1, f2, f3, f4, f5, f6, f7⟩ := dec_fin (B := w.heap.size + 1 + 1 + 1) (.int .i32 r) hBl (Below.refl _ _) (KeepsOthers.refl _) hv hrow hbl hbn hbn
                    exact ⟨f1, f2, ⟨⟨_, f3, by rw [hn3'.out]; exact f4⟩, by rw [hn2.out]; exact f5, f6⟩, f7⟩
                  · have hp13b : (lastP pre == 13) = false := beq_eq_false_iff_ne.2 hp13
                    have hn3' := Aside0.mk (show outL (pre ++ [(o, r)]) = outL pre ++ [r] from by rw [hn1.out]; simp [ln1, hr10, hp13])
                    clear hr13 hr10 hp13
                    gi_wp2_with (gi_at_builtin; refine wpListIn_append_own _ rfl _ _ 38 rfl (w.heap.size + 2) 21 i0 (.int .i32 0) 1 4 Try.underlying38 hi hz0 hz1 hz2 rfl (by decide) _ _ _ rfl (hrow.alloc _) ⟨W.heap.size, 0, none⟩ 1 1 [.int .i32 r] rfl rfl (cell_one_new _ _ _) (by simp [Value.oneCell']) (by simp only [maxLen]; omega) (by omega) (by have := hbn.lt; simp; omega) ?_; intro v' w1 hown' hgrow _; obtain ⟨g', cap', rfl⟩ := ownsRow_succ hown'; have hnb := (hbn.alloc (.cells #[.int .i32 r] 21)).kept hgrow (hbn.not_row (by decide) hrow); have hnl := (hbl.alloc (.cells #[.int .i32 r] 21)).kept hgrow (not_own (B := w.heap.size + 1) (by omega) hrow); obtain ⟨hv1, hv2, hr2, hk2, hb2⟩ := hv.appended (n₀ := w.heap.size) (by decide) (own_weak hrow (by omega)) hBl.size (Nat.le_refl _) (own_weak hown' (by omega)) hgrow; have hr3 := hown'.kept (grownBy_setCell' w1 w.heap.size (Value.slice (some ⟨g', 0, none⟩) ((outL pre).length + 1) cap')) (.inr (hv1.not_row (by decide) hown').symm); have hbl1 := hnl.other (B' := w.heap.size) (by omega) (Value.slice (some ⟨g', 0, none⟩) ((outL pre).length + 1) cap'); have hbn1 := hnb.other (B' := w.heap.size) (by omega) (Value.slice (some ⟨g', 0, none⟩) ((outL pre).length + 1) cap'); have hc1 := hv1.cell; have hf1 := hv1.frozen; have hcl1 := (hnl.other (B' := w.heap.size) (by omega) (Value.slice (some ⟨g', 0, none⟩) ((outL pre).length + 1) cap')).cell; have hfl1 := (hnl.other (B' := w.heap.size) (by omega) (Value.slice (some ⟨g', 0, none⟩) ((outL pre).length + 1) cap')).frozen)
                    obtain ⟨f1, f2, f3, f4, f5, f6, f7⟩ := dec_fin (B := w.heap.size + 1 + 1 + 1) (.int .i32 r) hBl hb2 hk2 hv2 hr3 hbl1 hbn1 hbn
                    exact ⟨f1, f2, ⟨⟨_, f3, by rw [hn3'.out, List.length_append, List.map_append]; exact f4⟩, by rw [hn2.out]; exact f5, f6⟩, f7⟩
                · have hr10b : (r == 10) = false := beq_eq_false_iff_ne.2 hr10
                  have hn3' := Aside0.mk (show outL (pre ++ [(o, r)]) = outL pre ++ [r] from by rw [hn1.out]; simp [ln1, hr10, hr13])
                  clear hr13 hr10
                  gi_wp2_with (gi_at_builtin; refine wpListIn_append_own _ rfl _ _ 38 rfl (w.heap.size + 2) 21 i0 (.int .i32 0) 1 4 Try.underlying38 hi hz0 hz1 hz2 rfl (by decide) _ _ _ rfl (hrow.alloc _) ⟨W.heap.size, 0, none⟩ 1 1 [.int .i32 r] rfl rfl (cell_one_new _ _ _) (by simp [Value.oneCell']) (by simp only [maxLen]; omega) (by omega) (by have := hbn.lt; simp; omega) ?_; intro v' w1 hown' hgrow _; obtain ⟨g', cap', rfl⟩ := ownsRow_succ hown'; have hnb := (hbn.alloc (.cells #[.int .i32 r] 21)).kept hgrow (hbn.not_row (by decide) hrow); have hnl := (hbl.alloc (.cells #[.int .i32 r] 21)).kept hgrow (not_own (B := w.heap.size + 1) (by omega) hrow); obtain ⟨hv1, hv2, hr2, hk2, hb2⟩ := hv.appended (n₀ := w.heap.size) (by decide) (own_weak hrow (by omega)) hBl.size (Nat.le_refl _) (own_weak hown' (by omega)) hgrow; have hr3 := hown'.kept (grownBy_setCell' w1 w.heap.size (Value.slice (some ⟨g', 0, none⟩) ((outL pre).length + 1) cap')) (.inr (hv1.not_row (by decide) hown').symm); have hbl1 := hnl.other (B' := w.heap.size) (by omega) (Value.slice (some ⟨g', 0, none⟩) ((outL pre).length + 1) cap'); have hbn1 := hnb.other (B' := w.heap.size) (by omega) (Value.slice (some ⟨g', 0, none⟩) ((outL pre).length + 1) cap'); have hc1 := hv1.cell; have hf1 := hv1.frozen; have hcl1 := (hnl.other (B' := w.heap.size) (by omega) (Value.slice (some ⟨g', 0, none⟩) ((outL pre).length + 1) cap')).cell; have hfl1 := (hnl.other (B' := w.heap.size) (by omega) (Value.slice (some ⟨g', 0, none⟩) ((outL pre).length + 1) cap')).frozen)
                  obtain ⟨f1, f2, f3, f4, f5, f6, f7⟩ := dec_fin (B := w.heap.size + 1 + 1 + 1) (.int .i32 r) hBl hb2 hk2 hv2 hr3 hbl1 hbn1 hbn
                  exact ⟨f1, f2, ⟨⟨_, f3, by rw [hn3'.out, List.length_append, List.map_append]; exact f4⟩, by rw [hn2.out]; exact f5, f6⟩, f7⟩
            case done3 =>
              rintro D ys W hD rfl ⟨⟨⟨v, hv, hrow, _⟩, hbl, hbn⟩, hBl⟩ hK
              have hc := hv.cell
              gi_wp2
              refine ⟨by simp, .inl ⟨_, _, rfl, run_takeDeferred hK, ?_⟩⟩
              refine ⟨_, results_tmp rfl _ _ _, v, rfl, ?_, hBl.trans (belowK_b (w := w) (Nat.le_refl _) W D _ _ (by simp at hD; omega) hK rfl rfl)⟩
              have hdec : decL b = outL (sg 0 (bb)) := by rw [decL, hst.out]; rfl
              rw [hdec]
              exact ownsRow_putObj (own_weak hrow (by omega)) _ hK rfl
            case stop3 =>
              rintro D c pre W _ _ h _
              exact h.elim
        · have q2b : (x2 == 191) = false := beq_eq_false_iff_ne.2 q2
          have hst := Aside0.mk (show strip b = b from by rw [strip, htk.out, if_neg (by simp [q2])])
          have hlenB := hlen
          have hBB := hB
          have hcB := Aside0.mk hc0
          have HCB := HC
          clear q0 q1 q2
          gi_wp2
          refine ⟨trivial, (signs_in _ _ _ _ _).mono ?_⟩
          rintro e w' ⟨rfl, rfl⟩
          gi_wp2
          have bO := Boxed.new w 38 (.slice none 0 0)
          have bL := Boxed.new (w.alloc (.cells #[.slice none 0 0] 38)) 21 (.int .i32 0)
          have bN := Boxed.new ((w.alloc (.cells #[.slice none 0 0] 38)).alloc (.cells #[.int .i32 0] 21)) 37 (.slice (some ad) (b.length) (c0))
          rw [World.size_alloc] at bL
          rw [World.size_alloc, World.size_alloc] at bN
          have hB0 : Below w.heap.size w (((w.alloc (.cells #[.slice none 0 0] 38)).alloc (.cells #[.int .i32 0] 21)).alloc (.cells #[.slice (some ad) (b.length) (c0)] 37)) := (((Below.refl _ w).alloc (Nat.le_refl _) _).alloc (by simp) _).alloc (by simp; omega) _
          have hL' : (b.length) = (b).length := by first | rfl | (rw [List.length_drop]; done) | (rw [List.length_drop]; omega)
          have bN' : Boxed (((w.alloc (.cells #[.slice none 0 0] 38)).alloc (.cells #[.int .i32 0] 21)).alloc (.cells #[.slice (some ad) (b.length) (c0)] 37)) (w.heap.size + 1 + 1) 37 (.slice (some ad) (b).length (c0)) := by rw [← hL']; exact bN
          refine wpIn_rangeFunc_ownG rfl h14 (gf := 46) (lb := #[.pointer (some ⟨w.heap.size + 1 + 1, 0, none⟩)]) rfl trivial (enters_of Try.func46 (by kernel_rfl) rfl)
            (signs_stops (4 - 1) (by omega) (w.heap.size + 1 + 1) w (some ad) (c0) (b) hlenB hBB hcB.out HCB.out _ hB0 bN') (fun h k => KpS.trans h k) (kpS_b (by simp; omega) (by simp)) (Below.refl _ _) (fun _ => rfl)
            (fun pre W => ((∃ v, Boxed W w.heap.size 38 v ∧ W.ownsRow (w.heap.size + 2) 21 1 v (outL pre).length ((outL pre).map (Value.int .i32)) ∧ True) ∧ Boxed W (w.heap.size + 1) 21 (.int .i32 (lastP pre)) ∧ Boxed W (w.heap.size + 1 + 1) 37 (.slice (some ad) (b).length (c0))) ∧ Below w.heap.size w W)
            (fun _ _ _ => False)
            (OwnFrom.and (OwnFrom.and (Own.from (holdsRow_own (w.heap.size + 2) w.heap.size 38 21 1 (fun pre => (outL pre).length) (fun pre => (outL pre).map (Value.int .i32)) (fun _ _ => True)) _) (OwnFrom.and (Own.from (boxed_own _ _ _) _) (Own.from (boxed_own _ _ (fun _ => .slice (some ad) (b).length (c0))) _))) (ownFrom_below (Nat.le_refl _) (by simp; omega)))
            (fun _ _ _ _ _ hs _ _ => hs)
            ⟨⟨⟨_, (bO.alloc _).alloc _, World.ownsRow_nil _ _ _ _, trivial⟩, bL.alloc _, bN'⟩, hB0⟩
            (fun x => { tmps := #[.slice (some ad) b.length c0, undef, .slice none 0 0, .pointer (some ⟨w.heap.size, 0, none⟩), .pointer (some ⟨w.heap.size + 1, 0, none⟩), undef, .int .i32 x.2, .slice (some ad) b.length c0, .int .i64 b.length, .bool true, .bool true, .slice (some ad) b.length c0, .pointer (some ad), .int .u8 x0, .bool true, .bool true, .bool true, .slice (some ad) b.length c0, .pointer (some ⟨ad.block, ad.off + 1, none⟩), .int .u8 x1, .bool true, .bool true, .bool true, .slice (some ad) b.length c0, .pointer (some ⟨ad.block, ad.off + 2, none⟩), .int .u8 x2, .bool false, .bool false, undef, undef, .slice (some ad) b.length c0, .func (.func 46) #[] #[.pointer (some ⟨w.heap.size + 1 + 1, 0, none⟩)], .int .i64 x.1, .int .i32 x.2, undef, undef, undef, undef, undef, undef, undef, undef, undef, undef, undef, undef, undef, undef, undef, undef, undef, undef, undef], defers := [] }) ?assign4 ?body4 ?done4 ?stop4
          case assign4 =>
            intro l x W K hK
            gi_wp2
            exact hK
          case body4 =>
            rintro l pre ⟨o, r⟩ W ⟨⟨⟨v, hv, hrow, _⟩, hbl, hbn⟩, hBl⟩ hlt
            have hpl : (outL pre).length < 1000000 := by have := outL_len pre; have := sg_len 0 (b); omega
            have hc := hv.cell
            have hcl := hbl.cell
            have hfl := hbl.frozen
            have hn1 := Aside0.mk (outL_snoc pre (o, r))
            have hn2 := Aside0.mk (lastP_snoc pre (o, r))
            by_cases hr13 : r = 13
            · have hr13b : (r == 13) = true := beq_iff_eq.2 hr13
              have hn3 : outL (pre ++ [(o, r)]) = outL pre ++ [10] := by rw [hn1.out]; simp [ln1, hr13]
              have hn3' := Aside0.mk hn3
              clear hn3
              have hr13' := Aside0.mk hr13
              clear hr13
              gi_wp2_with (gi_at_builtin; refine wpListIn_append_own _ rfl _ _ 38 rfl (w.heap.size + 2) 21 i0 (.int .i32 0) 1 4 Try.underlying38 hi hz0 hz1 hz2 rfl (by decide) _ _ _ rfl (hrow.alloc _) ⟨W.heap.size, 0, none⟩ 1 1 [.int .i32 10] rfl rfl (cell_one_new _ _ _) (by simp [Value.oneCell']) (by simp only [maxLen]; omega) (by omega) (by have := hbn.lt; simp; omega) ?_; intro v' w1 hown' hgrow _; obtain ⟨g', cap', rfl⟩ := ownsRow_succ hown'; have hnb := (hbn.alloc (.cells #[.int .i32 10] 21)).kept hgrow (hbn.not_row (by decide) hrow); have hnl := (hbl.alloc (.cells #[.int .i32 10] 21)).kept hgrow (not_own (B := w.heap.size + 1) (by omega) hrow); obtain ⟨hv1, hv2, hr2, hk2, hb2⟩ := hv.appended (n₀ := w.heap.size) (by decide) (own_weak hrow (by omega)) hBl.size (Nat.le_refl _) (own_weak hown' (by omega)) hgrow; have hr3 := hown'.kept (grownBy_setCell' w1 w.heap.size (Value.slice (some ⟨g', 0, none⟩) ((outL pre).length + 1) cap')) (.inr (hv1.not_row (by decide) hown').symm); have hbl1 := hnl.other (B' := w.heap.size) (by omega) (Value.slice (some ⟨g', 0, none⟩) ((outL pre).length + 1) cap'); have hbn1 := hnb.other (B' := w.heap.size) (by omega) (Value.slice (some ⟨g', 0, none⟩) ((outL pre).length + 1) cap'); have hc1 := hv1.cell; have hf1 := hv1.frozen; have hcl1 := (hnl.other (B' := w.heap.size) (by omega) (Value.slice (some ⟨g', 0, none⟩) ((outL pre).length + 1) cap')).cell; have hfl1 := (hnl.other (B' := w.heap.size) (by omega) (Value.slice (some ⟨g', 0, none⟩) ((outL pre).length + 1) cap')).frozen)
              obtain ⟨f1, f2, f3, f4, f5, f6, f7⟩ := dec_fin (B := w.heap.size + 1 + 1 + 1) (.int .i32 r) hBl hb2 hk2 hv2 hr3 hbl1 hbn1 hbn
              exact ⟨f1, f2, ⟨⟨_, f3, by rw [hn3'.out, List.length_append, List.map_append]; exact f4⟩, by rw [hn2.out]; exact f5, f6⟩, f7⟩
            · have hr13b : (r == 13) = false := beq_eq_false_iff_ne.2 hr13
              by_cases hr10 : r = 10
              · have hr10b : (r == 10) = true := beq_iff_eq.2 hr10
                by_cases hp13 : lastP pre = 13
                · have hp13b : (lastP pre == 13) = true := beq_iff_eq.2 hp13
                  have hn3' := Aside0.mk (show outL (pre ++ [(o, r)]) = outL pre from by rw [hn1.out]; simp [ln1, hr10, hp13])
                  clear hr13 hr10 hp13
                  gi_wp2
                  obtain ⟨f1, f2, f3, f4, f5, f6, f7⟩ := dec_fin (B := w.heap.size + 1 + 1 + 1) (.int .i32 r) hBl (Below.refl _ _) (KeepsOthers.refl _) hv hrow hbl hbn hbn
                  exact ⟨f1, f2, ⟨⟨_, f3, by rw [hn3'.out]; exact f4⟩, by rw [hn2.out]; exact f5, f6⟩, f7⟩
                · have hp13b : (lastP pre == 13) = false := beq_eq_false_iff_ne.2 hp13
                  have hn3' := Aside0.mk (show outL (pre ++ [(o, r)]) = outL pre ++ [r] from by rw [hn1.out]; simp [ln1, hr10, hp13])
                  clear hr13 hr10 hp13
                  gi_wp2_with (gi_at_builtin; refine wpListIn_append_own _ rfl _ _ 38 rfl (w.heap.size + 2) 21 i0 (.int .i32 0) 1 4 Try.underlying38 hi hz0 hz1 hz2 rfl (by decide) _ _ _ rfl (hrow.alloc _) ⟨W.heap.size, 0, none⟩ 1 1 [.int .i32 r] rfl rfl (cell_one_new _ _ _) (by simp [Value.oneCell']) (by simp only [maxLen]; omega) (by omega) (by have := hbn.lt; simp; omega) ?_; intro v' w1 hown' hgrow _; obtain ⟨g', cap', rfl⟩ := ownsRow_succ hown'; have hnb := (hbn.alloc (.cells #[.int .i32 r] 21)).kept hgrow (hbn.not_row (by decide) hrow); have hnl := (hbl.alloc (.cells #[.int .i32 r] 21)).kept hgrow (not_own (B := w.heap.size + 1) (by omega) hrow); obtain ⟨hv1, hv2, hr2, hk2, hb2⟩ := hv.appended (n₀ := w.heap.size) (by decide) (own_weak hrow (by omega)) hBl.size (Nat.le_refl _) (own_weak hown' (by omega)) hgrow; have hr3 := hown'.kept (grownBy_setCell' w1 w.heap.size (Value.slice (some ⟨g', 0, none⟩) ((outL pre).length + 1) cap')) (.inr (hv1.not_row (by decide) hown').symm); have hbl1 := hnl.other (B' := w.heap.size) (by omega) (Value.slice (some ⟨g', 0, none⟩) ((outL pre).length + 1) cap'); have hbn1 := hnb.other (B' := w.heap.size) (by omega) (Value.slice (some ⟨g', 0, none⟩) ((outL pre).length + 1) cap'); have hc1 := hv1.cell; have hf1 := hv1.frozen; have hcl1 := (hnl.other (B' := w.heap.size) (by omega) (Value.slice (some ⟨g', 0, none⟩) ((outL pre).length + 1) cap')).cell; have hfl1 := (hnl.other (B' := w.heap.size) (by omega) (Value.slice (some ⟨g', 0, none⟩) ((outL pre).length + 1) cap')).frozen)
                  obtain ⟨f1, f2, f3, f4, f5, f6, f7⟩ := dec_fin (B := w.heap.size + 1 + 1 + 1) (.int .i32 r) hBl hb2 hk2 hv2 hr3 hbl1 hbn1 hbn
                  exact ⟨f1, f2, ⟨⟨_, f3, by rw [hn3'.out, List.length_append, List.map_append]; exact f4⟩, by rw [hn2.out]; exact f5, f6⟩, f7⟩
              · have hr10b : (r == 10) = false := beq_eq_false_iff_ne.2 hr10
                have hn3' := Aside0.mk (show outL (pre ++ [(o, r)]) = outL pre ++ [r] from by rw [hn1.out]; simp [ln1, hr10, hr13])
                clear hr13 hr10
                gi_wp2_with (gi_at_builtin; refine wpListIn_append_own _ rfl _ _ 38 rfl (w.heap.size + 2) 21 i0 (.int .i32 0) 1 4 Try.underlying38 hi hz0 hz1 hz2 rfl (by decide) _ _ _ rfl (hrow.alloc _) ⟨W.heap.size, 0, none⟩ 1 1 [.int .i32 r] rfl rfl (cell_one_new _ _ _) (by simp [Value.oneCell']) (by simp only [maxLen]; omega) (by omega) (by have := hbn.lt; simp; omega) ?_; intro v' w1 hown' hgrow _; obtain ⟨g', cap', rfl⟩ := ownsRow_succ hown'; have hnb := (hbn.alloc (.cells #[.int .i32 r] 21)).kept hgrow (hbn.not_row (by decide) hrow); have hnl := (hbl.alloc (.cells #[.int .i32 r] 21)).kept hgrow (not_own (B := w.heap.size + 1) (by omega) hrow); obtain ⟨hv1, hv2, hr2, hk2, hb2⟩ := hv.appended (n₀ := w.heap.size) (by decide) (own_weak hrow (by omega)) hBl.size (Nat.le_refl _) (own_weak hown' (by omega)) hgrow; have hr3 := hown'.kept (grownBy_setCell' w1 w.heap.size (Value.slice (some ⟨g', 0, none⟩) ((outL pre).length + 1) cap')) (.inr (hv1.not_row (by decide) hown').symm); have hbl1 := hnl.other (B' := w.heap.size) (by omega) (Value.slice (some ⟨g', 0, none⟩) ((outL pre).length + 1) cap'); have hbn1 := hnb.other (B' := w.heap.size) (by omega) (Value.slice (some ⟨g', 0, none⟩) ((outL pre).length + 1) cap'); have hc1 := hv1.cell; have hf1 := hv1.frozen; have hcl1 := (hnl.other (B' := w.heap.size) (by omega) (Value.slice (some ⟨g', 0, none⟩) ((outL pre).length + 1) cap')).cell; have hfl1 := (hnl.other (B' := w.heap.size) (by omega) (Value.slice (some ⟨g', 0, none⟩) ((outL pre).length + 1) cap')).frozen)
                obtain ⟨f1, f2, f3, f4, f5, f6, f7⟩ := dec_fin (B := w.heap.size + 1 + 1 + 1) (.int .i32 r) hBl hb2 hk2 hv2 hr3 hbl1 hbn1 hbn
                exact ⟨f1, f2, ⟨⟨_, f3, by rw [hn3'.out, List.length_append, List.map_append]; exact f4⟩, by rw [hn2.out]; exact f5, f6⟩, f7⟩
          case done4 =>
            rintro D ys W hD rfl ⟨⟨⟨v, hv, hrow, _⟩, hbl, hbn⟩, hBl⟩ hK
            have hc := hv.cell
            gi_wp2
            refine ⟨by simp, .inl ⟨_, _, rfl, run_takeDeferred hK, ?_⟩⟩
            refine ⟨_, results_tmp rfl _ _ _, v, rfl, ?_, hBl.trans (belowK_b (w := w) (Nat.le_refl _) W D _ _ (by simp at hD; omega) hK rfl rfl)⟩
            have hdec : decL b = outL (sg 0 (b)) := by rw [decL, hst.out]; rfl
            rw [hdec]
            exact ownsRow_putObj (own_weak hrow (by omega)) _ hK rfl
          case stop4 =>
            rintro D c pre W _ _ h _
            exact h.elim
      · have q1b : (x1 == 187) = false := beq_eq_false_iff_ne.2 q1
        have hst := Aside0.mk (show strip b = b from by rw [strip, htk.out, if_neg (by simp [q1])])
        have hlenB := hlen
        have hBB := hB
        have hcB := Aside0.mk hc0
        have HCB := HC
        clear q0 q1
        gi_wp2
        refine ⟨trivial, (signs_in _ _ _ _ _).mono ?_⟩
        rintro e w' ⟨rfl, rfl⟩
        gi_wp2
        have bO := Boxed.new w 38 (.slice none 0 0)
        have bL := Boxed.new (w.alloc (.cells #[.slice none 0 0] 38)) 21 (.int .i32 0)
        have bN := Boxed.new ((w.alloc (.cells #[.slice none 0 0] 38)).alloc (.cells #[.int .i32 0] 21)) 37 (.slice (some ad) (b.length) (c0))
        rw [World.size_alloc] at bL
        rw [World.size_alloc, World.size_alloc] at bN
        have hB0 : Below w.heap.size w (((w.alloc (.cells #[.slice none 0 0] 38)).alloc (.cells #[.int .i32 0] 21)).alloc (.cells #[.slice (some ad) (b.length) (c0)] 37)) := (((Below.refl _ w).alloc (Nat.le_refl _) _).alloc (by simp) _).alloc (by simp; omega) _
        have hL' : (b.length) = (b).length := by first | rfl | (rw [List.length_drop]; done) | (rw [List.length_drop]; omega)
        have bN' : Boxed (((w.alloc (.cells #[.slice none 0 0] 38)).alloc (.cells #[.int .i32 0] 21)).alloc (.cells #[.slice (some ad) (b.length) (c0)] 37)) (w.heap.size + 1 + 1) 37 (.slice (some ad) (b).length (c0)) := by rw [← hL']; exact bN
        refine wpIn_rangeFunc_ownG rfl h14 (gf := 46) (lb := #[.pointer (some ⟨w.heap.size + 1 + 1, 0, none⟩)]) rfl trivial (enters_of Try.func46 (by kernel_rfl) rfl)
          (signs_stops (4 - 1) (by omega) (w.heap.size + 1 + 1) w (some ad) (c0) (b) hlenB hBB hcB.out HCB.out _ hB0 bN') (fun h k => KpS.trans h k) (kpS_b (by simp; omega) (by simp)) (Below.refl _ _) (fun _ => rfl)
          (fun pre W => ((∃ v, Boxed W w.heap.size 38 v ∧ W.ownsRow (w.heap.size + 2) 21 1 v (outL pre).length ((outL pre).map (Value.int .i32)) ∧ True) ∧ Boxed W (w.heap.size + 1) 21 (.int .i32 (lastP pre)) ∧ Boxed W (w.heap.size + 1 + 1) 37 (.slice (some ad) (b).length (c0))) ∧ Below w.heap.size w W)
          (fun _ _ _ => False)
          (OwnFrom.and (OwnFrom.and (Own.from (holdsRow_own (w.heap.size + 2) w.heap.size 38 21 1 (fun pre => (outL pre).length) (fun pre => (outL pre).map (Value.int .i32)) (fun _ _ => True)) _) (OwnFrom.and (Own.from (boxed_own _ _ _) _) (Own.from (boxed_own _ _ (fun _ => .slice (some ad) (b).length (c0))) _))) (ownFrom_below (Nat.le_refl _) (by simp; omega)))
          (fun _ _ _ _ _ hs _ _ => hs)
          ⟨⟨⟨_, (bO.alloc _).alloc _, World.ownsRow_nil _ _ _ _, trivial⟩, bL.alloc _, bN'⟩, hB0⟩
          (fun x => { tmps := #[.slice (some ad) b.length c0, undef, .slice none 0 0, .pointer (some ⟨w.heap.size, 0, none⟩), .pointer (some ⟨w.heap.size + 1, 0, none⟩), undef, .int .i32 x.2, .slice (some ad) b.length c0, .int .i64 b.length, .bool true, .bool true, .slice (some ad) b.length c0, .pointer (some ad), .int .u8 x0, .bool true, .bool true, .bool true, .slice (some ad) b.length c0, .pointer (some ⟨ad.block, ad.off + 1, none⟩), .int .u8 x1, .bool false, .bool false, .bool false, undef, undef, undef, undef, .bool false, undef, undef, .slice (some ad) b.length c0, .func (.func 46) #[] #[.pointer (some ⟨w.heap.size + 1 + 1, 0, none⟩)], .int .i64 x.1, .int .i32 x.2, undef, undef, undef, undef, undef, undef, undef, undef, undef, undef, undef, undef, undef, undef, undef, undef, undef, undef, undef], defers := [] }) ?assign5 ?body5 ?done5 ?stop5
        case assign5 =>
          intro l x W K hK
          gi_wp2
          exact hK
        case body5 =>
          rintro l pre ⟨o, r⟩ W ⟨⟨⟨v, hv, hrow, _⟩, hbl, hbn⟩, hBl⟩ hlt
          have hpl : (outL pre).length < 1000000 := by have := outL_len pre; have := sg_len 0 (b); omega
          have hc := hv.cell
          have hcl := hbl.cell
          have hfl := hbl.frozen
          have hn1 := Aside0.mk (outL_snoc pre (o, r))
          have hn2 := Aside0.mk (lastP_snoc pre (o, r))
          by_cases hr13 : r = 13
          · have hr13b : (r == 13) = true := beq_iff_eq.2 hr13
            have hn3 : outL (pre ++ [(o, r)]) = outL pre ++ [10] := by rw [hn1.out]; simp [ln1, hr13]
            have hn3' := Aside0.mk hn3
            clear hn3
            have hr13' := Aside0.mk hr13
            clear hr13
            gi_wp2_with (gi_at_builtin; refine wpListIn_append_own _ rfl _ _ 38 rfl (w.heap.size + 2) 21 i0 (.int .i32 0) 1 4 Try.underlying38 hi hz0 hz1 hz2 rfl (by decide) _ _ _ rfl (hrow.alloc _) ⟨W.heap.size, 0, none⟩ 1 1 [.int .i32 10] rfl rfl (cell_one_new _ _ _) (by simp [Value.oneCell']) (by simp only [maxLen]; omega) (by omega) (by have := hbn.lt; simp; omega) ?_; intro v' w1 hown' hgrow _; obtain ⟨g', cap', rfl⟩ := ownsRow_succ hown'; have hnb := (hbn.alloc (.cells #[.int .i32 10] 21)).kept hgrow (hbn.not_row (by decide) hrow); have hnl := (hbl.alloc (.cells #[.int .i32 10] 21)).kept hgrow (not_own (B := w.heap.size + 1) (by omega) hrow); obtain ⟨hv1, hv2, hr2, hk2, hb2⟩ := hv.appended (n₀ := w.heap.size) (by decide) (own_weak hrow (by omega)) hBl.size (Nat.le_refl _) (own_weak hown' (by omega)) hgrow; have hr3 := hown'.kept (grownBy_setCell' w1 w.heap.size (Value.slice (some ⟨g', 0, none⟩) ((outL pre).length + 1) cap')) (.inr (hv1.not_row (by decide) hown').symm); have hbl1 := hnl.other (B' := w.heap.size) (by omega) (Value.slice (some ⟨g', 0, none⟩) ((outL pre).length + 1) cap'); have hbn1 := hnb.other (B' := w.heap.size) (by omega) (Value.slice (some ⟨g', 0, none⟩) ((outL pre).length + 1) cap'); have hc1 := hv1.cell; have hf1 := hv1.frozen; have hcl1 := (hnl.other (B' := w.heap.size) (by omega) (Value.slice (some ⟨g', 0, none⟩) ((outL pre).length + 1) cap')).cell; have hfl1 := (hnl.other (B' := w.heap.size) (by omega) (Value.slice (some ⟨g', 0, none⟩) ((outL pre).length + 1) cap')).frozen)
            obtain ⟨f1, f2, f3, f4, f5, f6, f7⟩ := dec_fin (B := w.heap.size + 1 + 1 + 1) (.int .i32 r) hBl hb2 hk2 hv2 hr3 hbl1 hbn1 hbn
            exact ⟨f1, f2, ⟨⟨_, f3, by rw [hn3'.out, List.length_append, List.map_append]; exact f4⟩, by rw [hn2.out]; exact f5, f6⟩, f7⟩
          · have hr13b : (r == 13) = false := beq_eq_false_iff_ne.2 hr13
            by_cases hr10 : r = 10
            · have hr10b : (r == 10) = true := beq_iff_eq.2 hr10
              by_cases hp13 : lastP pre = 13
              · have hp13b : (lastP pre == 13) = true := beq_iff_eq.2 hp13
                have hn3' := Aside0.mk (show outL (pre ++ [(o, r)]) = outL pre from by rw [hn1.out]; simp [ln1, hr10, hp13])
                clear hr13 hr10 hp13
                gi_wp2
                obtain ⟨f1, f2, f3, f4, f5, f6, f7⟩ := dec_fin (B := w.heap.size + 1 + 1 + 1) (.int .i32 r) hBl (Below.refl _ _) (KeepsOthers.refl _) hv hrow hbl hbn hbn
                exact ⟨f1, f2, ⟨⟨_, f3, by rw [hn3'.out]; exact f4⟩, by rw [hn2.out]; exact f5, f6⟩, f7⟩
              · have hp13b : (lastP pre == 13) = false := beq_eq_false_iff_ne.2 hp13
                have hn3' := Aside0.mk (show outL (pre ++ [(o, r)]) = outL pre ++ [r] from by rw [hn1.out]; simp [ln1, hr10, hp13])
                clear hr13 hr10 hp13
                gi_wp2_with (gi_at_builtin; refine wpListIn_append_own _ rfl _ _ 38 rfl (w.heap.size + 2) 21 i0 (.int .i32 0) 1 4 Try.underlying38 hi hz0 hz1 hz2 rfl (by decide) _ _ _ rfl (hrow.alloc _) ⟨W.heap.size, 0, none⟩ 1 1 [.int .i32 r] rfl rfl (cell_one_new _ _ _) (by simp [Value.oneCell']) (by simp only [maxLen]; omega) (by omega) (by have := hbn.lt; simp; omega) ?_; intro v' w1 hown' hgrow _; obtain ⟨g', cap', rfl⟩ := ownsRow_succ hown'; have hnb := (hbn.alloc (.cells #[.int .i32 r] 21)).kept hgrow (hbn.not_row (by decide) hrow); have hnl := (hbl.alloc (.cells #[.int .i32 r] 21)).kept hgrow (not_own (B := w.heap.size + 1) (by omega) hrow); obtain ⟨hv1, hv2, hr2, hk2, hb2⟩ := hv.appended (n₀ := w.heap.size) (by decide) (own_weak hrow (by omega)) hBl.size (Nat.le_refl _) (own_weak hown' (by omega)) hgrow; have hr3 := hown'.kept (grownBy_setCell' w1 w.heap.size (Value.slice (some ⟨g', 0, none⟩) ((outL pre).length + 1) cap')) (.inr (hv1.not_row (by decide) hown').symm); have hbl1 := hnl.other (B' := w.heap.size) (by omega) (Value.slice (some ⟨g', 0, none⟩) ((outL pre).length + 1) cap'); have hbn1 := hnb.other (B' := w.heap.size) (by omega) (Value.slice (some ⟨g', 0, none⟩) ((outL pre).length + 1) cap'); have hc1 := hv1.cell; have hf1 := hv1.frozen; have hcl1 := (hnl.other (B' := w.heap.size) (by omega) (Value.slice (some ⟨g', 0, none⟩) ((outL pre).length + 1) cap')).cell; have hfl1 := (hnl.other (B' := w.heap.size) (by omega) (Value.slice (some ⟨g', 0, none⟩) ((outL pre).length + 1) cap')).frozen)
                obtain ⟨f1, f2, f3, f4, f5, f6, f7⟩ := dec_fin (B := w.heap.size + 1 + 1 + 1) (.int .i32 r) hBl hb2 hk2 hv2 hr3 hbl1 hbn1 hbn
                exact ⟨f1, f2, ⟨⟨_, f3, by rw [hn3'.out, List.length_append, List.map_append]; exact f4⟩, by rw [hn2.out]; exact f5, f6⟩, f7⟩
            · have hr10b : (r == 10) = false := beq_eq_false_iff_ne.2 hr10
              have hn3' := Aside0.mk (show outL (pre ++ [(o, r)]) = outL pre ++ [r] from by rw [hn1.out]; simp [ln1, hr10, hr13])
              clear hr13 hr10
              gi_wp2_with (gi_at_builtin; refine wpListIn_append_own _ rfl _ _ 38 rfl (w.heap.size + 2) 21 i0 (.int .i32 0) 1 4 Try.underlying38 hi hz0 hz1 hz2 rfl (by decide) _ _ _ rfl (hrow.alloc _) ⟨W.heap.size, 0, none⟩ 1 1 [.int .i32 r] rfl rfl (cell_one_new _ _ _) (by simp [Value.oneCell']) (by simp only [maxLen]; omega) (by omega) (by have := hbn.lt; simp; omega) ?_; intro v' w1 hown' hgrow _; obtain ⟨g', cap', rfl⟩ := ownsRow_succ hown'; have hnb := (hbn.alloc (.cells #[.int .i32 r] 21)).kept hgrow (hbn.not_row (by decide) hrow); have hnl := (hbl.alloc (.cells #[.int .i32 r] 21)).kept hgrow (not_own (B := w.heap.size + 1) (by omega) hrow); obtain ⟨hv1, hv2, hr2, hk2, hb2⟩ := hv.appended (n₀ := w.heap.size) (by decide) (own_weak hrow (by omega)) hBl.size (Nat.le_refl _) (own_weak hown' (by omega)) hgrow; have hr3 := hown'.kept (grownBy_setCell' w1 w.heap.size (Value.slice (some ⟨g', 0, none⟩) ((outL pre).length + 1) cap')) (.inr (hv1.not_row (by decide) hown').symm); have hbl1 := hnl.other (B' := w.heap.size) (by omega) (Value.slice (some ⟨g', 0, none⟩) ((outL pre).length + 1) cap'); have hbn1 := hnb.other (B' := w.heap.size) (by omega) (Value.slice (some ⟨g', 0, none⟩) ((outL pre).length + 1) cap'); have hc1 := hv1.cell; have hf1 := hv1.frozen; have hcl1 := (hnl.other (B' := w.heap.size) (by omega) (Value.slice (some ⟨g', 0, none⟩) ((outL pre).length + 1) cap')).cell; have hfl1 := (hnl.other (B' := w.heap.size) (by omega) (Value.slice (some ⟨g', 0, none⟩) ((outL pre).length + 1) cap')).frozen)
              obtain ⟨f1, f2, f3, f4, f5, f6, f7⟩ := dec_fin (B := w.heap.size + 1 + 1 + 1) (.int .i32 r) hBl hb2 hk2 hv2 hr3 hbl1 hbn1 hbn
              exact ⟨f1, f2, ⟨⟨_, f3, by rw [hn3'.out, List.length_append, List.map_append]; exact f4⟩, by rw [hn2.out]; exact f5, f6⟩, f7⟩
        case done5 =>
          rintro D ys W hD rfl ⟨⟨⟨v, hv, hrow, _⟩, hbl, hbn⟩, hBl⟩ hK
          have hc := hv.cell
          gi_wp2
          refine ⟨by simp, .inl ⟨_, _, rfl, run_takeDeferred hK, ?_⟩⟩
          refine ⟨_, results_tmp rfl _ _ _, v, rfl, ?_, hBl.trans (belowK_b (w := w) (Nat.le_refl _) W D _ _ (by simp at hD; omega) hK rfl rfl)⟩
          have hdec : decL b = outL (sg 0 (b)) := by rw [decL, hst.out]; rfl
          rw [hdec]
          exact ownsRow_putObj (own_weak hrow (by omega)) _ hK rfl
        case stop5 =>
          rintro D c pre W _ _ h _
          exact h.elim
    · have q0b : (x0 == 239) = false := beq_eq_false_iff_ne.2 q0
      have hst := Aside0.mk (show strip b = b from by rw [strip, htk.out, if_neg (by simp [q0])])
      have hlenB := hlen
      have hBB := hB
      have hcB := Aside0.mk hc0
      have HCB := HC
      clear q0
      gi_wp2
      refine ⟨trivial, (signs_in _ _ _ _ _).mono ?_⟩
      rintro e w' ⟨rfl, rfl⟩
      gi_wp2
      have bO := Boxed.new w 38 (.slice none 0 0)
      have bL := Boxed.new (w.alloc (.cells #[.slice none 0 0] 38)) 21 (.int .i32 0)
      have bN := Boxed.new ((w.alloc (.cells #[.slice none 0 0] 38)).alloc (.cells #[.int .i32 0] 21)) 37 (.slice (some ad) (b.length) (c0))
      rw [World.size_alloc] at bL
      rw [World.size_alloc, World.size_alloc] at bN
      have hB0 : Below w.heap.size w (((w.alloc (.cells #[.slice none 0 0] 38)).alloc (.cells #[.int .i32 0] 21)).alloc (.cells #[.slice (some ad) (b.length) (c0)] 37)) := (((Below.refl _ w).alloc (Nat.le_refl _) _).alloc (by simp) _).alloc (by simp; omega) _
      have hL' : (b.length) = (b).length := by first | rfl | (rw [List.length_drop]; done) | (rw [List.length_drop]; omega)
      have bN' : Boxed (((w.alloc (.cells #[.slice none 0 0] 38)).alloc (.cells #[.int .i32 0] 21)).alloc (.cells #[.slice (some ad) (b.length) (c0)] 37)) (w.heap.size + 1 + 1) 37 (.slice (some ad) (b).length (c0)) := by rw [← hL']; exact bN
      refine wpIn_rangeFunc_ownG rfl h14 (gf := 46) (lb := #[.pointer (some ⟨w.heap.size + 1 + 1, 0, none⟩)]) rfl trivial (enters_of Try.func46 (by kernel_rfl) rfl)
        (signs_stops (4 - 1) (by omega) (w.heap.size + 1 + 1) w (some ad) (c0) (b) hlenB hBB hcB.out HCB.out _ hB0 bN') (fun h k => KpS.trans h k) (kpS_b (by simp; omega) (by simp)) (Below.refl _ _) (fun _ => rfl)
        (fun pre W => ((∃ v, Boxed W w.heap.size 38 v ∧ W.ownsRow (w.heap.size + 2) 21 1 v (outL pre).length ((outL pre).map (Value.int .i32)) ∧ True) ∧ Boxed W (w.heap.size + 1) 21 (.int .i32 (lastP pre)) ∧ Boxed W (w.heap.size + 1 + 1) 37 (.slice (some ad) (b).length (c0))) ∧ Below w.heap.size w W)
        (fun _ _ _ => False)
        (OwnFrom.and (OwnFrom.and (Own.from (holdsRow_own (w.heap.size + 2) w.heap.size 38 21 1 (fun pre => (outL pre).length) (fun pre => (outL pre).map (Value.int .i32)) (fun _ _ => True)) _) (OwnFrom.and (Own.from (boxed_own _ _ _) _) (Own.from (boxed_own _ _ (fun _ => .slice (some ad) (b).length (c0))) _))) (ownFrom_below (Nat.le_refl _) (by simp; omega)))
        (fun _ _ _ _ _ hs _ _ => hs)
        ⟨⟨⟨_, (bO.alloc _).alloc _, World.ownsRow_nil _ _ _ _, trivial⟩, bL.alloc _, bN'⟩, hB0⟩
        (fun x => { tmps := #[.slice (some ad) b.length c0, undef, .slice none 0 0, .pointer (some ⟨w.heap.size, 0, none⟩), .pointer (some ⟨w.heap.size + 1, 0, none⟩), undef, .int .i32 x.2, .slice (some ad) b.length c0, .int .i64 b.length, .bool true, .bool true, .slice (some ad) b.length c0, .pointer (some ad), .int .u8 x0, .bool false, .bool false, .bool false, undef, undef, undef, undef, .bool false, .bool false, undef, undef, undef, undef, .bool false, undef, undef, .slice (some ad) b.length c0, .func (.func 46) #[] #[.pointer (some ⟨w.heap.size + 1 + 1, 0, none⟩)], .int .i64 x.1, .int .i32 x.2, undef, undef, undef, undef, undef, undef, undef, undef, undef, undef, undef, undef, undef, undef, undef, undef, undef, undef, undef], defers := [] }) ?assign6 ?body6 ?done6 ?stop6
      case assign6 =>
        intro l x W K hK
        gi_wp2
        exact hK
      case body6 =>
        rintro l pre ⟨o, r⟩ W ⟨⟨⟨v, hv, hrow, _⟩, hbl, hbn⟩, hBl⟩ hlt
        have hpl : (outL pre).length < 1000000 := by have := outL_len pre; have := sg_len 0 (b); omega
        have hc := hv.cell
        have hcl := hbl.cell
        have hfl := hbl.frozen
        have hn1 := Aside0.mk (outL_snoc pre (o, r))
        have hn2 := Aside0.mk (lastP_snoc pre (o, r))
        by_cases hr13 : r = 13
        · have hr13b : (r == 13) = true := beq_iff_eq.2 hr13
          have hn3 : outL (pre ++ [(o, r)]) = outL pre ++ [10] := by rw [hn1.out]; simp [ln1, hr13]
          have hn3' := Aside0.mk hn3
          clear hn3
          have hr13' := Aside0.mk hr13
          clear hr13
          gi_wp2_with (gi_at_builtin; refine wpListIn_append_own _ rfl _ _ 38 rfl (w.heap.size + 2) 21 i0 (.int .i32 0) 1 4 Try.underlying38 hi hz0 hz1 hz2 rfl (by decide) _ _ _ rfl (hrow.alloc _) ⟨W.heap.size, 0, none⟩ 1 1 [.int .i32 10] rfl rfl (cell_one_new _ _ _) (by simp [Value.oneCell']) (by simp only [maxLen]; omega) (by omega) (by have := hbn.lt; simp; omega) ?_; intro v' w1 hown' hgrow _; obtain ⟨g', cap', rfl⟩ := ownsRow_succ hown'; have hnb := (hbn.alloc (.cells #[.int .i32 10] 21)).kept hgrow (hbn.not_row (by decide) hrow); have hnl := (hbl.alloc (.cells #[.int .i32 10] 21)).kept hgrow (not_own (B := w.heap.size + 1) (by omega) hrow); obtain ⟨hv1, hv2, hr2, hk2, hb2⟩ := hv.appended (n₀ := w.heap.size) (by decide) (own_weak hrow (by omega)) hBl.size (Nat.le_refl _) (own_weak hown' (by omega)) hgrow; have hr3 := hown'.kept (grownBy_setCell' w1 w.heap.size (Value.slice (some ⟨g', 0, none⟩) ((outL pre).length + 1) cap')) (.inr (hv1.not_row (by decide) hown').symm); have hbl1 := hnl.other (B' := w.heap.size) (by omega) (Value.slice (some ⟨g', 0, none⟩) ((outL pre).length + 1) cap'); have hbn1 := hnb.other (B' := w.heap.size) (by omega) (Value.slice (some ⟨g', 0, none⟩) ((outL pre).length + 1) cap'); have hc1 := hv1.cell; have hf1 := hv1.frozen; have hcl1 := (hnl.other (B' := w.heap.size) (by omega) (Value.slice (some ⟨g', 0, none⟩) ((outL pre).length + 1) cap')).cell; have hfl1 := (hnl.other (B' := w.heap.size) (by omega) (Value.slice (some ⟨g', 0, none⟩) ((outL pre).length + 1) cap')).frozen)
          obtain ⟨f1, f2, f3, f4, f5, f6, f7⟩ := dec_fin (B := w.heap.size + 1 + 1 + 1) (.int .i32 r) hBl hb2 hk2 hv2 hr3 hbl1 hbn1 hbn
          exact ⟨f1, f2, ⟨⟨_, f3, by rw [hn3'.out, List.length_append, List.map_append]; exact f4⟩, by rw [hn2.out]; exact f5, f6⟩, f7⟩
        · have hr13b : (r == 13) = false := beq_eq_false_iff_ne.2 hr13
          by_cases hr10 : r = 10
          · have hr10b : (r == 10) = true := beq_iff_eq.2 hr10
            by_cases hp13 : lastP pre = 13
            · have hp13b : (lastP pre == 13) = true := beq_iff_eq.2 hp13
              have hn3' := Aside0.mk (show outL (pre ++ [(o, r)]) = outL pre from by rw [hn1.out]; simp [ln1, hr10, hp13])
              clear hr13 hr10 hp13
              gi_wp2
              obtain ⟨f1, f2, f3, f4, f5, f6, f7⟩ := dec_fin (B := w.heap.size + 1 + 1 + 1) (.int .i32 r) hBl (Below.refl _ _) (KeepsOthers.refl _) hv hrow hbl hbn hbn
              exact ⟨f1, f2, ⟨⟨_, f3, by rw [hn3'.out]; exact f4⟩, by rw [hn2.out]; exact f5, f6⟩, f7⟩
            · have hp13b : (lastP pre == 13) = false := beq_eq_false_iff_ne.2 hp13
              have hn3' := Aside0.mk (show outL (pre ++ [(o, r)]) = outL pre ++ [r] from by rw [hn1.out]; simp [ln1, hr10, hp13])
              clear hr13 hr10 hp13
              gi_wp2_with (gi_at_builtin; refine wpListIn_append_own _ rfl _ _ 38 rfl (w.heap.size + 2) 21 i0 (.int .i32 0) 1 4 Try.underlying38 hi hz0 hz1 hz2 rfl (by decide) _ _ _ rfl (hrow.alloc _) ⟨W.heap.size, 0, none⟩ 1 1 [.int .i32 r] rfl rfl (cell_one_new _ _ _) (by simp [Value.oneCell']) (by simp only [maxLen]; omega) (by omega) (by have := hbn.lt; simp; omega) ?_; intro v' w1 hown' hgrow _; obtain ⟨g', cap', rfl⟩ := ownsRow_succ hown'; have hnb := (hbn.alloc (.cells #[.int .i32 r] 21)).kept hgrow (hbn.not_row (by decide) hrow); have hnl := (hbl.alloc (.cells #[.int .i32 r] 21)).kept hgrow (not_own (B := w.heap.size + 1) (by omega) hrow); obtain ⟨hv1, hv2, hr2, hk2, hb2⟩ := hv.appended (n₀ := w.heap.size) (by decide) (own_weak hrow (by omega)) hBl.size (Nat.le_refl _) (own_weak hown' (by omega)) hgrow; have hr3 := hown'.kept (grownBy_setCell' w1 w.heap.size (Value.slice (some ⟨g', 0, none⟩) ((outL pre).length + 1) cap')) (.inr (hv1.not_row (by decide) hown').symm); have hbl1 := hnl.other (B' := w.heap.size) (by omega) (Value.slice (some ⟨g', 0, none⟩) ((outL pre).length + 1) cap'); have hbn1 := hnb.other (B' := w.heap.size) (by omega) (Value.slice (some ⟨g', 0, none⟩) ((outL pre).length + 1) cap'); have hc1 := hv1.cell; have hf1 := hv1.frozen; have hcl1 := (hnl.other (B' := w.heap.size) (by omega) (Value.slice (some ⟨g', 0, none⟩) ((outL pre).length + 1) cap')).cell; have hfl1 := (hnl.other (B' := w.heap.size) (by omega) (Value.slice (some ⟨g', 0, none⟩) ((outL pre).length + 1) cap')).frozen)
              obtain ⟨f1, f2, f3, f4, f5, f6, f7⟩ := dec_fin (B := w.heap.size + 1 + 1 + 1) (.int .i32 r) hBl hb2 hk2 hv2 hr3 hbl1 hbn1 hbn
              exact ⟨f1, f2, ⟨⟨_, f3, by rw [hn3'.out, List.length_append, List.map_append]; exact f4⟩, by rw [hn2.out]; exact f5, f6⟩, f7⟩
          · have hr10b : (r == 10) = false := beq_eq_false_iff_ne.2 hr10
            have hn3' := Aside0.mk (show outL (pre ++ [(o, r)]) = outL pre ++ [r] from by rw [hn1.out]; simp [ln1, hr10, hr13])
            clear hr13 hr10
            gi_wp2_with (gi_at_builtin; refine wpListIn_append_own _ rfl _ _ 38 rfl (w.heap.size + 2) 21 i0 (.int .i32 0) 1 4 Try.underlying38 hi hz0 hz1 hz2 rfl (by decide) _ _ _ rfl (hrow.alloc _) ⟨W.heap.size, 0, none⟩ 1 1 [.int .i32 r] rfl rfl (cell_one_new _ _ _) (by simp [Value.oneCell']) (by simp only [maxLen]; omega) (by omega) (by have := hbn.lt; simp; omega) ?_; intro v' w1 hown' hgrow _; obtain ⟨g', cap', rfl⟩ := ownsRow_succ hown'; have hnb := (hbn.alloc (.cells #[.int .i32 r] 21)).kept hgrow (hbn.not_row (by decide) hrow); have hnl := (hbl.alloc (.cells #[.int .i32 r] 21)).kept hgrow (not_own (B := w.heap.size + 1) (by omega) hrow); obtain ⟨hv1, hv2, hr2, hk2, hb2⟩ := hv.appended (n₀ := w.heap.size) (by decide) (own_weak hrow (by omega)) hBl.size (Nat.le_refl _) (own_weak hown' (by omega)) hgrow; have hr3 := hown'.kept (grownBy_setCell' w1 w.heap.size (Value.slice (some ⟨g', 0, none⟩) ((outL pre).length + 1) cap')) (.inr (hv1.not_row (by decide) hown').symm); have hbl1 := hnl.other (B' := w.heap.size) (by omega) (Value.slice (some ⟨g', 0, none⟩) ((outL pre).length + 1) cap'); have hbn1 := hnb.other (B' := w.heap.size) (by omega) (Value.slice (some ⟨g', 0, none⟩) ((outL pre).length + 1) cap'); have hc1 := hv1.cell; have hf1 := hv1.frozen; have hcl1 := (hnl.other (B' := w.heap.size) (by omega) (Value.slice (some ⟨g', 0, none⟩) ((outL pre).length + 1) cap')).cell; have hfl1 := (hnl.other (B' := w.heap.size) (by omega) (Value.slice (some ⟨g', 0, none⟩) ((outL pre).length + 1) cap')).frozen)
            obtain ⟨f1, f2, f3, f4, f5, f6, f7⟩ := dec_fin (B := w.heap.size + 1 + 1 + 1) (.int .i32 r) hBl hb2 hk2 hv2 hr3 hbl1 hbn1 hbn
            exact ⟨f1, f2, ⟨⟨_, f3, by rw [hn3'.out, List.length_append, List.map_append]; exact f4⟩, by rw [hn2.out]; exact f5, f6⟩, f7⟩
      case done6 =>
        rintro D ys W hD rfl ⟨⟨⟨v, hv, hrow, _⟩, hbl, hbn⟩, hBl⟩ hK
        have hc := hv.cell
        gi_wp2
        refine ⟨by simp, .inl ⟨_, _, rfl, run_takeDeferred hK, ?_⟩⟩
        refine ⟨_, results_tmp rfl _ _ _, v, rfl, ?_, hBl.trans (belowK_b (w := w) (Nat.le_refl _) W D _ _ (by simp at hD; omega) hK rfl rfl)⟩
        have hdec : decL b = outL (sg 0 (b)) := by rw [decL, hst.out]; rfl
        rw [hdec]
        exact ownsRow_putObj (own_weak hrow (by omega)) _ hK rfl
      case stop6 =>
        rintro D c pre W _ _ h _
        exact h.elim

theorem text_Decode.calls (A0 : Option Addr) (c0 : Nat) (l0 : List Int) (r : List Int) (w : World) (hr0 : Kd.C (Kd.int .u8) w A0 l0.length l0) (hc0 : l0.length ≤ c0) (h : text_Decode.f l0 = some r) :
    Calls Try.prog 24 #[.slice A0 l0.length c0] w fun e w' => ∃ v0_, e = .returned v0_ ∧ Kd.R (Kd.int .i32) 21 w' w.heap.size (fun _ => True) v0_ r ∧ Below w.heap.size w w' := by
  unfold text_Decode.f at h
  split at h
  · rename_i hb
    obtain rfl := Option.some.inj h
    refine (callsIn_wide.1 (decode_in A0 c0 l0 w hr0 hc0 hb.1 hb.2)).mono ?_
    rintro e w' ⟨v, rfl, ho, hbl⟩
    exact ⟨v, rfl, Kd.R_of_own ho (fun _ _ => trivial), hbl⟩
  · cases h

end Go.Proofs.Ytccadgnbomgpcaa.Tx
