-- The law TextEncodes (function 9).
import Derived.Maps.AppendAt
import Derived.Test.YtccadgnbomgpcaaTxSigns
import Derived.Test.YtccadgnbomgpcaaTxEnc
import Derived.Test.YtccadgnbomgpcaaTxBytes
import Derived.Test.YtccadgnbomgpcaaTxPutA
namespace Go.Proofs.Ytccadgnbomgpcaa.Tx
open Go.RowKit Go.Shelf Go.Proofs.YtccadgnbomgpcaaW.PrintWords Go.Proofs.YtccadgnbomgpcaaW.PrintLast Go.Proofs.YtccadgnbomgpcaaW.PrintMore
attribute [local go_sem] Oper.semAt_some
set_option linter.unusedVariables false
set_option linter.unusedSimpArgs false

def Runes (l : List Int) : Prop := ∀ x ∈ l, -2147483648 ≤ x ∧ x ≤ 2147483647

theorem wf_i32 {x : Int} (h : (Lit.int .i32 x).wf = true) : -2147483648 ≤ x ∧ x ≤ 2147483647 := by
  simp [Lit.wf, IntKind.min, IntKind.max, IntKind.signed, IntKind.bits] at h
  omega
theorem next_i {xs pre : List Int} (h : pre <+: xs) (hl : pre.length < xs.length) : ∃ p : Int, pre ++ [p] <+: xs ∧ xs[pre.length]? = some p := by
  obtain ⟨t, rfl⟩ := h
  cases t with
  | nil => simp at hl
  | cons p t => exact ⟨p, ⟨t, by simp⟩, by simp⟩
theorem not_pre_i {xs pre : List Int} {p q : Int} (h : pre ++ [p] <+: xs) (hne : q ≠ p) : ¬ pre ++ [q] <+: xs := by
  rintro ⟨t, ht⟩
  obtain ⟨u, hu⟩ := h
  rw [← hu, List.append_assoc, List.append_assoc] at ht
  have := List.append_cancel_left ht
  simp at this
  exact hne this.1
theorem bytes_calls (c : Int) (hw : -2147483648 ≤ c ∧ c ≤ 2147483647) (w : World) : Calls Try.prog 30 #[.int .i32 c] w fun e w' => ∃ g cap, e = .returned (.slice (some ⟨g, 0, none⟩) (encS (fixS c)).length cap) ∧
    (∀ j u, ((encS (fixS c)).map (Value.int .u8))[j]? = some u → w'.cell? ((⟨g, 0, none⟩ : Addr).add j) = some u) ∧ Below w.heap.size w w' := by
  refine (woodcutref01_Bytes.calls 2 c _ w (bytes_eq c hw)).mono ?_
  rintro e w' ⟨v, rfl, hR, hb⟩
  have ho : w'.ownsRow w.heap.size 5 1 v (encS (fixS c)).length ((encS (fixS c)).map (Value.int .u8)) := Kd.own_of_R hR
  have hpos : 0 < (encS (fixS c)).length := List.length_pos_iff.2 (encS_ne _)
  rcases ho.2 with ⟨_, h0⟩ | ⟨g, cap, _, rfl, _⟩
  · omega
  · exact ⟨g, cap, rfl, ho.cells rfl, hb⟩
theorem encL_take {rs : List Int} {k : Nat} {c : Int} (h : rs[k]? = some c) : encL (rs.take (k + 1)) = encL (rs.take k) ++ encS (fixS c) := by
  rw [List.take_add_one, h]
  simp [encL]

set_option maxRecDepth 100000 in
set_option maxHeartbeats 8000000 in
theorem encodes_law (A0 : Option Addr) (c0 : Nat) (rs : List Int) (w : World) (hr0 : Kd.C (Kd.int .i32) w A0 rs.length rs) (hc0 : rs.length ≤ c0) (hR : Runes rs) :
    CallsIn Fence.wide 5 Try.prog 9 #[.slice A0 rs.length c0] w fun e w' => e = .returned (.bool true) ∧ Below w.heap.size w w' := by
  have h15 : 1 ≤ 5 := by omega
  obtain ⟨i5, hi5, hz0, hz1, hz2⟩ := info_parts info5
  have HC := Aside0.mk hr0
  have HC0 := Aside0.mk hc0
  clear hr0 hc0
  refine callsIn_of_wp_marks Try.func9 rfl trivial ?_ rfl
  simp only [Try.ntmps9, List.size_toArray, List.length_cons, List.length_nil, Nat.reduceAdd, Nat.reduceSub, Array.replicate_succ, Array.replicate_zero, List.push_toArray, List.append_toArray, List.nil_append, List.cons_append]
  by_cases hl : rs.length ≤ 500
  · have hl1 : decide (500 < (rs.length : Int)) = false := decide_eq_false (by omega)
    have hl2 : (500 < rs.length) = False := eq_false (by omega)
    gi_wp2
    refine ⟨trivial, (callsIn_wide.2 (woodcutlaw01_head.calls true _ head_true)).mono ?_⟩
    rintro e w1 ⟨rfl, hb1⟩
    have bS : Boxed w1 w.heap.size 38 (.slice A0 rs.length c0) := (hb1.block _ (by simp; omega)).trans ((Boxed.new w 38 (.slice A0 rs.length c0)).alloc _)
    have bR : Boxed w1 (w.heap.size + 1) 4 (.bool false) := (hb1.block _ (by simp)).trans (by have := Boxed.new (w.alloc (.cells #[.slice A0 rs.length c0] 38)) 4 (.bool false); rwa [World.size_alloc] at this)
    have hw1 : Below w.heap.size w w1 := (((Below.refl _ w).alloc (Nat.le_refl _) _).alloc (by simp) _).trans (hb1.mono (by simp; omega))
    have hs1 : w.heap.size + 2 ≤ w1.heap.size := by have := hb1.size; simpa using this
    clear hb1
    have cS := bS.cell
    have cS2 := (bS.alloc (.cells #[] 5)).cell
    have row0 : (w1.alloc (.cells #[] 5)).ownsRow w1.heap.size 5 1 (.slice (some ⟨w1.heap.size, 0, none⟩) 0 0) 0 [] := ⟨rfl, .inr ⟨w1.heap.size, 0, #[], rfl, Nat.le_refl _, World.alloc_heap_new w1 _, Nat.le_refl _, by simp only [maxLen]; omega, rfl, rfl⟩⟩
    have hb2 : Below w1.heap.size w1 (w1.alloc (.cells #[] 5)) := (Below.refl _ w1).alloc (Nat.le_refl _) _
    gi_wp2
    gi_loopw [3, 19] (fun v idx wr => ∃ k : Nat, idx = .int .i64 k ∧ k ≤ rs.length ∧ wr.ownsRow w1.heap.size 5 1 v (encL (rs.take k)).length ((encL (rs.take k)).map (Value.int .u8)) ∧ Below w1.heap.size w1 wr)
      (fun v idx _ => rs.length - (intOf idx).toNat)
    case atStart => exact ⟨0, rfl, Nat.zero_le _, row0, hb2⟩
    case round =>
      obtain ⟨k, rfl, hk, hrow, hB⟩ := hrel
      have bSr : Boxed wr w.heap.size 38 (.slice A0 rs.length c0) := (hB.block _ bS.lt).trans bS
      have cSr := bSr.cell
      by_cases hlt : k < rs.length
      · obtain ⟨c, hc⟩ : ∃ c, rs[k]? = some c := ⟨_, List.getElem?_eq_getElem hlt⟩
        obtain ⟨ad, rfl, hcell⟩ := cell_at (Kd.C_below (Kd.C_below HC.out hw1) (hB.mono (Nat.le_refl _))) hlt hc
        gi_wp2
        have hcm : -2147483648 ≤ c ∧ c ≤ 2147483647 := hR c (List.mem_of_getElem? hc)
        have hlk := encL_len (rs.take k)
        have hle4 := encS_len (fixS c)
        have htl : (rs.take k).length ≤ k := by rw [List.length_take]; omega
        have htk := Aside0.mk (encL_take hc)
        refine ⟨trivial, (callsIn_wide.2 (bytes_calls c hcm wr)).mono ?_⟩
        rintro e w' ⟨g, cap, rfl, hcb, hbb⟩
        have hrow2 := pw_own_below hrow hbb
        have hB2 := hB.trans (hbb.mono hB.size)
        have hcb' := Aside0.mk hcb
        have hrow2' := Aside0.mk hrow2
        have hB2' := Aside0.mk hB2
        clear hcb hrow2 hB2 hbb hc hcell hrow
        rename_i aK
        refine aK _ _ ?_
        refine wpListIn_append_own _ rfl _ _ 37 rfl w1.heap.size 5 i5 (.int .u8 0) 1 1 Try.underlying37 hi5 hz0 hz1 hz2 rfl (by decide) _ _ _ rfl hrow2'.out ⟨g, 0, none⟩ (encS (fixS c)).length cap ((encS (fixS c)).map (Value.int .u8)) rfl (by simp) hcb'.out (by simp [Value.oneCell']) (by simp only [maxLen]; omega) (by omega) hB2'.out.size ?_
        intro v' w3 hown' hgrow _
        have hw3 := Aside0.mk (hB2'.out.grown hgrow hB2'.out.size (fun j e => Nat.le_of_not_lt fun hlt' => not_own hlt' hrow2'.out e.symm))
        have hown3 := Aside0.mk hown'
        clear hown' hgrow
        gi_wp2
        go_roundw
        case rel => exact ⟨k + 1, by simp, hlt, by rw [htk.out, List.length_append, List.map_append]; exact hown3.out, hw3.out⟩
        case measure => simp only [intOf]; omega
      · obtain rfl : k = rs.length := by omega
        rw [List.take_length] at hrow
        have hCr := Kd.C_below (Kd.C_below HC.out hw1) hB
        have bRr : Boxed wr (w.heap.size + 1) 4 (.bool false) := (hB.block _ bR.lt).trans bR
        gi_wp2
        refine ⟨trivial, (callsIn_wide.2 (text_Encode.calls (rs.length + 5) A0 c0 rs (encL rs) wr hCr HC0.out (encode_eq rs _ (Nat.le_refl _) (by omega)))).mono ?_⟩
        rintro e w2 ⟨v2, rfl, hR2, hb3⟩
        have st1 := own_string (P := Try.prog) Try.underlying37 Try.underlying5 Try.underlying9 (Kd.own_of_R hR2)
        have st2 := own_string (P := Try.prog) Try.underlying37 Try.underlying5 Try.underlying9 (show w2.ownsRow w1.heap.size 5 1 u3 _ (encs (Value.int .u8) (encL rs)) from pw_own_below hrow hb3)
        obtain ⟨A2, c2, rfl⟩ := Kd.R_slice hR2
        have hC2 := (Kd.R_reads' hR2).2.2
        have hc2 := (Kd.R_reads' hR2).2.1
        have bS2 : Boxed w2 w.heap.size 38 (.slice A0 rs.length c0) := (hb3.block _ bSr.lt).trans bSr
        have bR2 : Boxed w2 (w.heap.size + 1) 4 (.bool false) := (hb3.block _ bRr.lt).trans bRr
        have hB3 : Below w1.heap.size w1 w2 := hB.trans (hb3.mono hB.size)
        have hCr2 := Kd.C_below hCr hb3
        have cS2 := bS2.cell
        clear bSr cSr bRr
        gi_wp2
        refine ⟨trivial, (signs_in _ _ _ _ _).mono ?_⟩
        rintro e w' ⟨rfl, rfl⟩
        gi_wp2
        have b7 := Boxed.new w2 3 (.int .i64 0)
        have bN := Boxed.new (w2.alloc (.cells #[.int .i64 0] 3)) 37 (.slice A2 (encL rs).length c2)
        rw [World.size_alloc] at bN
        have hB0 : Below w2.heap.size w2 ((w2.alloc (.cells #[.int .i64 0] 3)).alloc (.cells #[.slice A2 (encL rs).length c2] 37)) := ((Below.refl _ w2).alloc (Nat.le_refl _) _).alloc (by simp) _
        have hle := encL_len rs
        have hsn : (sg 0 (encL rs)).map (·.2) = rs.map fixS := sg_encL rs 0
        have hsl : (sg 0 (encL rs)).length = rs.length := by have := congrArg List.length hsn; simpa using this
        have hsn' := Aside0.mk hsn
        have hsl' := Aside0.mk hsl
        clear hsn hsl
        refine wpIn_rangeFunc_ownG rfl h15 (gf := 46) (lb := #[.pointer (some ⟨w2.heap.size + 1, 0, none⟩)]) rfl trivial (enters_of Try.func46 (by kernel_rfl) rfl)
          (signs_stops (5 - 1) (by omega) (w2.heap.size + 1) w2 A2 c2 (encL rs) (by omega) (encL_bytes rs) hc2 hC2 _ hB0 bN) (fun h k => KpS.trans h k) (kpS_b (by simp; omega) (by simp)) (Below.refl _ _) (fun _ => rfl)
          (fun pre W => ((Boxed W w2.heap.size 3 (.int .i64 (pre.length : Int)) ∧ Boxed W (w2.heap.size + 1) 37 (.slice A2 (encL rs).length c2)) ∧ pre.map (·.2) <+: rs.map fixS) ∧ Below w2.heap.size w2 W)
          (fun c pre _ => c = .ret ∧ ¬ pre.map (·.2) <+: rs.map fixS)
          (OwnFrom.and (OwnFrom.and (OwnFrom.and (Own.from (boxed_own _ _ (fun pre : List (Nat × Int) => .int .i64 (pre.length : Int))) _) (Own.from (boxed_own _ _ (fun _ => .slice A2 (encL rs).length c2)) _)) (ownFrom_pure _ _)) (ownFrom_below (Nat.le_refl _) (by simp; omega)))
          (fun c => ownFrom_pure _ _)
          ⟨⟨⟨b7.alloc _, bN⟩, List.nil_prefix⟩, hB0⟩
          (fun x => { tmps := #[.slice A0 rs.length c0, .pointer (some ⟨w.heap.size, 0, none⟩), .pointer (some ⟨w.heap.size + 1, 0, none⟩), u3, undef, u5, .slice A2 (encL rs).length c2, .pointer (some ⟨w2.heap.size, 0, none⟩), undef, .int .i32 x.2, undef, .bool true, .bool false, .slice A0 rs.length c0, .int .i64 rs.length, .bool false, .slice (some ⟨w1.heap.size, 0, none⟩) 0 0, .slice A0 rs.length c0, .int .i64 rs.length, .int .i64 rs.length, .bool false, u21, u22, u23, u24, u25, u26, u27, .slice A0 rs.length c0, .slice A2 (encL rs).length c2, .slice A2 (encL rs).length c2, .string (strOfNums (encL rs)), u3, .string (strOfNums (encL rs)), .bool false, .slice A2 (encL rs).length c2, .func (.func 46) #[] #[.pointer (some ⟨w2.heap.size + 1, 0, none⟩)], .int .i64 x.1, .int .i32 x.2, undef, undef, undef, undef, undef, undef, undef, undef, undef, undef, undef, undef, undef, undef, undef, undef, undef, undef, undef, undef, undef, undef, undef, undef, undef, undef, undef, undef, undef, undef, undef, undef, undef, undef, undef, undef, undef, undef], defers := [] }) ?assign1 ?body1 ?done1 ?stop1
        case assign1 =>
          intro l x W K hK
          gi_wp2
          exact hK
        case body1 =>
          rintro l pre ⟨o, r⟩ W ⟨⟨⟨i7, iN⟩, ipre⟩, iB⟩ hlt
          rw [hsl'.out] at hlt
          obtain ⟨q0, hp1, hp2⟩ := next_i ipre (by rw [List.length_map, List.length_map]; exact hlt)
          rw [List.length_map, List.getElem?_map] at hp2
          obtain ⟨c, hc, hq⟩ := Option.map_eq_some_iff.1 hp2
          obtain ⟨ad, rfl, hcr⟩ := cell_at (Kd.C_below hCr2 iB) hlt hc
          have c7 := i7.cell
          have f7 := i7.frozen
          have iS : Boxed W w.heap.size 38 (.slice (some ad) rs.length c0) := (iB.block _ bS2.lt).trans bS2
          have iR : Boxed W (w.heap.size + 1) 4 (.bool false) := (iB.block _ bR2.lt).trans bR2
          have cS3 := iS.cell
          have cR := iR.cell
          have fR := iR.frozen
          obtain ⟨n, hn⟩ : ∃ n, n = pre.length := ⟨_, rfl⟩
          rw [← hn] at hlt hcr c7
          have hd1 : decide ((rs.length : Int) ≤ (n : Int)) = false := decide_eq_false (by omega)
          have hd2 : decide (rs.length ≤ n) = false := decide_eq_false (by omega)
          have hd3 : (rs.length ≤ n) = False := eq_false (by omega)
          have e5 := Aside0.mk (show ((n : Int) + 1) = (((pre ++ [(o, r)]).length : Nat) : Int) from by rw [hn]; simp)
          have hn' := Aside0.mk hn
          have hp' := Aside0.mk hp1
          clear hp1 hp2 ipre hn hc
          have hgood : r = q0 → (pre ++ [(o, r)]).map (·.2) <+: rs.map fixS := fun e => by rw [List.map_append]; subst e; exact hp'.out
          have hbad : r ≠ q0 → ¬ (pre ++ [(o, r)]).map (·.2) <+: rs.map fixS := fun e => by rw [List.map_append]; exact not_pre_i hp'.out e
          have hgood' := Aside0.mk hgood
          have hbad' := Aside0.mk hbad
          have hq' := Aside0.mk hq
          clear hgood hbad hq
          gi_wp2
          all_goals first
            | (have hne : r ≠ q0 := by
                rw [← hq'.out]
                unfold fixS
                simp only [bne_iff_ne, ne_eq, bne_eq_false_iff_eq] at *
                split <;> omega
               exact ⟨(KeepsOthers.setCell _ _ _).from _, rfl, hbad'.out hne⟩)
            | (have heq : r = q0 := by
                rw [← hq'.out]
                unfold fixS
                simp only [bne_iff_ne, ne_eq, bne_eq_false_iff_eq] at *
                split <;> omega
               exact ⟨(KeepsOthers.setCell _ _ _).from _, ⟨(Below.refl _ W).setCell (p := ⟨w2.heap.size, 0, none⟩) (Nat.le_refl _) _, (iN.other (by omega) _).trans iN.symm⟩, ⟨⟨by rw [← e5.out]; exact i7.set _, iN.other (by omega) _⟩, hgood'.out heq⟩, iB.setCell (p := ⟨w2.heap.size, 0, none⟩) (Nat.le_refl _) _⟩)
        case done1 =>
          rintro D ys W hD rfl ⟨⟨⟨i7, iN⟩, ipre⟩, iB⟩ hK
          rw [hsl'.out] at i7
          have iS : Boxed W w.heap.size 38 (.slice A0 rs.length c0) := (iB.block _ bS2.lt).trans bS2
          have iR : Boxed W (w.heap.size + 1) 4 (.bool false) := (iB.block _ bR2.lt).trans bR2
          have c7 := i7.cell
          have cS3 := iS.cell
          have kc := fun (w : World) (C : Array Value) (n c : Nat) => Lib.run_convert_bytes_const (P := Try.prog) w 37 5 C n c Try.underlying37 Try.underlying5
          clear ipre
          gi_wp2
          have hwW : Below w.heap.size w W := (hw1.trans (hB3.mono (by omega))).trans (iB.mono (by have := hB3.size; omega))
          refine ⟨trivial, (callsIn_wide.2 (put_a W)).mono ?_⟩
          rintro e w3 ⟨v3, rfl, ho3, hb4⟩
          have st3 := own_string (P := Try.prog) Try.underlying37 Try.underlying5 Try.underlying9 (show w3.ownsRow W.heap.size 5 1 v3 2 (nums .u8 [97, 98]) from ho3)
          rw [show strOfNums [97, 98] = ⟨#[97, 98]⟩ from by decide] at st3
          have jR : Boxed w3 (w.heap.size + 1) 4 (.bool false) := (hb4.block _ iR.lt).trans iR
          have jK := (hb4.block D (Array.getElem?_eq_some_iff.1 hK).1).trans hK
          have jB : Below w.heap.size w w3 := hwW.trans (hb4.mono hwW.size)
          have hDb : w.heap.size + 2 ≤ D := by have := hB3.size; simp at hD; omega
          have cR := jR.cell
          have fR := jR.frozen
          have jK' := Aside0.mk jK
          have jR' := Aside0.mk jR
          clear jK jR hb4 ho3 iR iS c7 cS3 hK iB i7 iN
          gi_wp2
          have g1 := heap_setCell_ne jK'.out (show D ≠ w.heap.size + 1 by omega) (.bool true)
          have g0 : Boxed (w3.setCell ⟨w.heap.size + 1, 0, none⟩ (.bool true)) (w.heap.size + 1) 4 (.bool true) := jR'.out.set _
          have gB : Below w.heap.size w (w3.setCell ⟨w.heap.size + 1, 0, none⟩ (.bool true)) := jB.setCell (p := ⟨w.heap.size + 1, 0, none⟩) (Nat.le_succ _) _
          obtain ⟨W6, hW6⟩ : ∃ W6, w3.setCell ⟨w.heap.size + 1, 0, none⟩ (.bool true) = W6 := ⟨_, rfl⟩
          rw [hW6] at g1 g0 gB ⊢
          have g0' := g0.kept (grownBy_putObj' W6 D (.deferred none)) (by simp; omega)
          have gB' := gB.trans (belowK_b (w := w) (Nat.le_refl _) W6 D _ (.deferred none) (by omega) g1 rfl rfl)
          have gc := g0'.cell
          refine ⟨by simp, .inl ⟨_, _, rfl, run_takeDeferred g1, ?_⟩⟩
          refine ⟨.bool true, ?_, rfl, gB'⟩
          simp [results, Try.f9, go_sem, gc]
        case stop1 =>
          rintro D c pre W hD hsp ⟨rfl, hne⟩ hK
          exact absurd (by rw [← hsn'.out]; exact hsp.map _) hne
  · have hl1 : decide (500 < (rs.length : Int)) = true := decide_eq_true (by omega)
    have hl2 : (500 < rs.length) = True := eq_true (by omega)
    gi_wp2
    refine ⟨trivial, (callsIn_wide.2 (woodcutlaw01_head.calls true _ head_true)).mono ?_⟩
    rintro e w1 ⟨rfl, hb1⟩
    have bS : Boxed w1 w.heap.size 38 (.slice A0 rs.length c0) := (hb1.block _ (by simp; omega)).trans ((Boxed.new w 38 (.slice A0 rs.length c0)).alloc _)
    have bR0 : Boxed w1 (w.heap.size + 1) 4 (.bool false) := (hb1.block _ (by simp)).trans (by have := Boxed.new (w.alloc (.cells #[.slice A0 rs.length c0] 38)) 4 (.bool false); rwa [World.size_alloc] at this)
    have hw1 : Below w.heap.size w w1 := (((Below.refl _ w).alloc (Nat.le_refl _) _).alloc (by simp) _).trans (hb1.mono (by simp; omega))
    clear hb1
    have cS := bS.cell
    have cR := bR0.cell
    have fR := bR0.frozen
    gi_wp2
    have g0 := (bR0.set (.bool true)).cell
    refine ⟨.bool true, ?_, rfl, hw1.setCell (p := ⟨w.heap.size + 1, 0, none⟩) (Nat.le_succ _) _⟩
    simp [results, Try.f9, go_sem, g0]
end Go.Proofs.Ytccadgnbomgpcaa.Tx
