-- The law TextWords (function 13).
import Derived.Test.YtccadgnbomgpcaaTxBlank
import Derived.Test.YtccadgnbomgpcaaTxHead
import Derived.Test.YtccadgnbomgpcaaTxWpl
namespace Go.Proofs.Ytccadgnbomgpcaa.Tx
open Go.RowKit Go.Shelf Go.Proofs.YtccadgnbomgpcaaW.PrintWords Go.Proofs.YtccadgnbomgpcaaW.PrintLast Go.Proofs.YtccadgnbomgpcaaW.PrintMore
set_option linter.unusedVariables false
set_option linter.unusedSimpArgs false

theorem blank_c (x : Int) (w : World) : Calls Try.prog 39 #[.int .u8 x] w fun e w' => e = .returned (.bool (blankB x)) ∧ w' = w := callsIn_wide.1 (blank_in 0 x w)
theorem lower_c (s : ByteArray) (hs : s.size ≤ 500) (w : World) : Calls Try.prog 38 #[.string s] w fun e w' => e = .returned (.string (lowS s)) ∧ Below w.heap.size w w' := callsIn_wide.1 (lower_in 0 s hs w)
theorem bl_at {s : ByteArray} {k : Nat} (h : k < s.size) : blankB ((s[k]'h).toNat : Int) = bl s k := by
  unfold bl bt
  rw [dif_pos (by rw [Int.toNat_natCast]; exact h)]
  simp only [Int.toNat_natCast]

theorem bt_nat {s : ByteArray} {k : Nat} (h : k < s.size) : ((s[k]'h).toNat : Int) = bt s (k : Int) := by
  unfold bt
  rw [dif_pos (by rw [Int.toNat_natCast]; exact h)]
  simp only [Int.toNat_natCast]

set_option maxRecDepth 100000 in
set_option maxHeartbeats 8000000 in
theorem words_law (s : ByteArray) (w : World) (hl : s.size ≤ 500) :
    Calls Try.prog 13 #[.string s] w fun e w' => e = .returned (.bool true) ∧ Below w.heap.size w w' := by
  have hl1 : decide (500 < (s.size : Int)) = false := decide_eq_false (by omega)
  have hl2 : (500 < s.size) = False := eq_false (by omega)
  go_enter Try.func13, Try.ntmps13
  go_upto_region 5 with (first | (go_at_call 20; (with_reducible refine (woodcutlaw01_head.calls true _ head_true).mono ?_); rintro e w1 ⟨rfl, hb1⟩))
  have hconv := Lib.run_convert_string_bytes (P := Try.prog) w1 9 37 5 s Try.underlying9 Try.underlying37 Try.underlying5
  have hb0 : Below w1.heap.size w1 (Lib.bytesWorld w1 5 s) := bytes_below w1 s
  have row0 : LowRow s w1.heap.size 0 (Lib.bytesWorld w1 5 s) := lowRow_zero w1 s
  go_upto_block 0 with fail
  go_cut [4] (fun v4 wc => Aside0 (LowRow s w1.heap.size s.size wc) ∧ Below w1.heap.size w1 wc)
  case first =>
    go_wp2_with fail
    go_loopw [23] (fun idx wr => ∃ k : Nat, idx = .int .i64 k ∧ k ≤ s.size ∧ LowRow s w1.heap.size k wr ∧ Below w1.heap.size w1 wr)
      (fun idx _ => s.size - (intOf idx).toNat)
    case atStart => exact ⟨0, rfl, Nat.zero_le _, row0, hb0⟩
    case round =>
      obtain ⟨k, rfl, hk, hrow, hB⟩ := hrel
      by_cases hlt : k < s.size
      · obtain ⟨hc, hf⟩ := hrow k hlt
        rw [if_neg (Nat.lt_irrefl k)] at hc
        obtain ⟨x, hx⟩ : ∃ x, x = byteN s k := ⟨_, rfl⟩
        rw [← hx] at hc
        have hrow' := Aside0.mk hrow
        have hx' := Aside0.mk hx
        have hx256 : x < 256 := by rw [hx]; exact (s.data.toList.getD k 0).toNat_lt
        clear hrow hx
        by_cases h65 : 65 ≤ x
        · by_cases h90 : x ≤ 90
          · go_wp2
            go_roundw
            case rel => exact ⟨k + 1, by simp, hlt, by have := lowRow_set hrow'.out hlt (by rw [← hx'.out]; omega); rw [← hx'.out] at this; exact this, hB.setCell (p := ⟨w1.heap.size, k, none⟩) (Nat.le_refl _) _⟩
            case measure => simp only [intOf]; omega
          · go_wp2
            go_roundw
            case rel => exact ⟨k + 1, by simp, hlt, lowRow_skip hrow'.out (by rw [← hx'.out]; omega), hB⟩
            case measure => simp only [intOf]; omega
        · go_wp2
          go_roundw
          case rel => exact ⟨k + 1, by simp, hlt, lowRow_skip hrow'.out (by rw [← hx'.out]; omega), hB⟩
          case measure => simp only [intOf]; omega
      · obtain rfl : k = s.size := by omega
        have hrow' := Aside0.mk hrow
        clear hrow
        go_wp2
        go_meet
        case rel => exact ⟨hrow', hB⟩
  case rest =>
    obtain ⟨hrow, hB⟩ := hcut
    clear row0 hb0 hconv
    go_upto_region 12 with fail
    have hBw : Below w.heap.size w wc := hb1.trans (hB.mono hb1.size)
    go_cut [44] (fun v wd => v = .bool false ∧ Below w.heap.size w wd)
    case first =>
      have hback := fun W' (hBW : Below wc.heap.size wc W') => lowRow_back (W := W') (fun j hj => by
        have hc := (hrow.out j hj).1
        rw [if_pos hj] at hc
        exact (hBW.cell (p := ⟨w1.heap.size, j, none⟩) (World.block_lt_of_cell? wc _ hc)).trans hc) (grownCap w1 s.size 0 5)
      have hbk0 := hback wc.drew ((Below.refl _ wc).drew)
      go_region_with (refine (lower_c s hl _).mono ?_; rintro e w' ⟨rfl, hbl⟩; have hbk := hback w' (((Below.refl _ wc).drew).trans hbl))
      all_goals
        go_wp2_with fail
        go_meet
      case rel => exact ⟨rfl, hBw.trans ((((Below.refl _ wc).drew).trans hbl).mono hBw.size)⟩
      case rel => exact ⟨rfl, hBw.trans ((((Below.refl _ wc).drew).trans hbl).mono hBw.size)⟩
    case rest =>
      clear hrow hB hBw hb1
      obtain ⟨rfl, hBd⟩ := hcut
      obtain ⟨w2, rfl⟩ : ∃ w2 : World, w2 = wc := ⟨_, rfl⟩
      go_upto_block 2 with fail
      go_cut [7] (fun v wd => ∃ f : Nat, v = .int .i64 f ∧ f ≤ s.size ∧ Aside0 (∀ j, j < f → bl s j = true) ∧ Aside0 (f < s.size → bl s f = false) ∧ wd = w2)
      case first =>
        go_wp2_with fail
        go_loopw [7] (fun v wl => ∃ k : Nat, v = .int .i64 k ∧ k ≤ s.size ∧ Aside0 (∀ j, j < k → bl s j = true) ∧ wl = w2)
          (fun v _ => s.size - (intOf v).toNat)
        case atStart => exact ⟨0, rfl, Nat.zero_le _, ⟨fun j hj => absurd hj (Nat.not_lt_zero j)⟩, rfl⟩
        case round =>
          obtain ⟨k, rfl, hk, hbl, rfl⟩ := hrel
          by_cases hlt : k < s.size
          · have hat := bl_at hlt
            by_cases hb : bl s k = true
            · rw [hb] at hat
              have hb' := Aside0.mk hb
              clear hb
              go_wp2_with (first | (go_at_call 39; (refine (blank_c _ _).mono ?_); rintro e w9 ⟨rfl, rfl⟩))
              go_roundw
              case rel => exact ⟨k + 1, by simp, hlt, ⟨fun j hj => if e : j = k then e ▸ hb'.out else hbl.out j (by omega)⟩, by first | rfl | trivial⟩
              case measure => simp only [intOf]; omega
            · rw [Bool.eq_false_iff.2 hb] at hat
              have hb' := Aside0.mk hb
              clear hb
              go_wp2_with (first | (go_at_call 39; (refine (blank_c _ _).mono ?_); rintro e w9 ⟨rfl, rfl⟩))
              go_meet
              case rel => exact ⟨k, rfl, hk, hbl, ⟨fun _ => Bool.eq_false_iff.2 hb'.out⟩, rfl⟩
          · obtain rfl : k = s.size := by omega
            go_wp2_with fail
            go_meet
            case rel => exact ⟨_, rfl, hk, hbl, ⟨fun h => absurd h (Nat.lt_irrefl _)⟩, rfl⟩
      case rest =>
        obtain ⟨f, rfl, hf, hf1, hf2, rfl⟩ := hcut
        obtain ⟨w2, rfl⟩ : ∃ w2 : World, w2 = wc := ⟨_, rfl⟩
        go_upto_block 4 with fail
        go_cut [8] (fun v wd => ∃ t : Nat, v = .int .i64 t ∧ f ≤ t ∧ t ≤ s.size ∧ Aside0 (∀ j, t ≤ j → j < s.size → bl s j = true) ∧ Aside0 (f < t → bl s (t - 1) = false) ∧ wd = w2)
        case first =>
          go_wp2_with fail
          go_loopw [8] (fun v wl => ∃ t : Nat, v = .int .i64 t ∧ f ≤ t ∧ t ≤ s.size ∧ Aside0 (∀ j, t ≤ j → j < s.size → bl s j = true) ∧ wl = w2)
            (fun v _ => (intOf v).toNat)
          case atStart => exact ⟨s.size, rfl, hf, Nat.le_refl _, ⟨fun j h1 h2 => absurd h2 (Nat.not_lt.2 h1)⟩, rfl⟩
          case round =>
            obtain ⟨t, rfl, hft, hts, hbl, rfl⟩ := hrel
            by_cases hlt : f < t
            · obtain ⟨u, rfl⟩ : ∃ u, t = u + 1 := ⟨t - 1, by omega⟩
              have hus : u < s.size := hts
              have hat := bl_at hus
              by_cases hb : bl s u = true
              · rw [hb] at hat
                have hb' := Aside0.mk hb
                clear hb
                go_wp2_with (first | (go_at_call 39; (refine (blank_c _ _).mono ?_); rintro e w9 ⟨rfl, rfl⟩))
                go_roundw
                case rel => exact ⟨u, by simp, by omega, by omega, ⟨fun j h1 h2 => if e : j = u then e ▸ hb'.out else hbl.out j (by omega) h2⟩, by first | rfl | trivial⟩
                case measure => simp only [intOf]; omega
              · rw [Bool.eq_false_iff.2 hb] at hat
                have hb' := Aside0.mk hb
                clear hb
                go_wp2_with (first | (go_at_call 39; (refine (blank_c _ _).mono ?_); rintro e w9 ⟨rfl, rfl⟩))
                go_meet
                case rel => exact ⟨u + 1, by simp, hft, hts, hbl, ⟨fun _ => Bool.eq_false_iff.2 hb'.out⟩, rfl⟩
            · obtain rfl : f = t := by omega
              go_wp2_with fail
              go_meet
              case rel => exact ⟨_, rfl, hft, hts, hbl, ⟨fun h => absurd h (Nat.lt_irrefl _)⟩, rfl⟩
        case rest =>
          obtain ⟨t, rfl, hft, hts, ht1, ht2, rfl⟩ := hcut
          obtain ⟨w2, rfl⟩ : ∃ w2 : World, w2 = wc := ⟨_, rfl⟩
          have htrim := Aside0.mk (trim_eq hl hft hts hf1.out hf2.out ht1.out ht2.out)
          clear hf1 hf2 ht1 ht2
          have b1 : (0 : Int) ≤ (f : Int) := by omega
          have b2 : (f : Int) ≤ (t : Int) := by omega
          have b3 : (t : Int) ≤ (s.size : Int) := by omega
          go_upto_region 21 with fail
          go_cut [78] (fun v wd => v = .bool false ∧ Below w.heap.size w wd)
          case first =>
            go_region_with (refine (text_Trim.calls _ s _ _ htrim.out).mono ?_; rintro e w' ⟨rfl, ⟨nd, rfl⟩⟩)
            all_goals
              go_wp2_with fail
              go_meet
            all_goals exact ⟨rfl, hBd.trans (pw_below_drewN (Below.refl _ w2) _ |>.mono hBd.size)⟩
          case rest =>
            clear htrim b1 b2 b3 hBd
            obtain ⟨rfl, hBd⟩ := hcut
            obtain ⟨w3, rfl⟩ : ∃ w3 : World, w3 = wc := ⟨_, rfl⟩
            go_upto_block 6 with fail
            have hB0 : Below w3.heap.size w3 ((w3.alloc (.cells #[] 9)).alloc (.cells #[] 5)) := below_alloc (below_alloc (Below.refl _ _) _) _
            have hW0 : Kd.R Kd.string 9 ((w3.alloc (.cells #[] 9)).alloc (.cells #[] 5)) w3.heap.size (fun _ => True) (.slice (some ⟨w3.heap.size, 0, none⟩) 0 0) [] := by
              refine Kd.R_alloc (Kd.R_of_own (xs := ([] : List ByteArray)) ?_ (fun _ _ => trivial)) _
              exact ⟨rfl, .inr ⟨w3.heap.size, 0, #[], rfl, Nat.le_refl _, World.alloc_heap_new w3 _, Nat.le_refl _, by simp only [maxLen]; omega, rfl, rfl⟩⟩
            have hN0 : Kd.R (Kd.int .u8) 5 ((w3.alloc (.cells #[] 9)).alloc (.cells #[] 5)) w3.heap.size (fun _ => True) (.slice (some ⟨w3.heap.size + 1, 0, none⟩) 0 0) [] := by
              refine Kd.R_of_own (xs := ([] : List Int)) ?_ (fun _ _ => trivial)
              exact ⟨rfl, .inr ⟨w3.heap.size + 1, 0, #[], rfl, Nat.le_succ _, by have := World.alloc_heap_new (w3.alloc (.cells #[] 9)) (.cells #[] 5); rwa [World.size_alloc] at this, Nat.le_refl _, by simp only [maxLen]; omega, rfl, rfl⟩⟩
            have hW0' := Aside0.mk hW0
            have hN0' := Aside0.mk hN0
            have hB0' := Aside0.mk hB0
            clear hW0 hN0 hB0
            go_cut [9] (fun v9 wd => Aside0 (Kd.R Kd.string 9 wd w3.heap.size (fun _ => True) v9 (wst s (s.size + 1)).1) ∧ Aside0 (Below w3.heap.size w3 wd))
            case first =>
              go_wp2_with fail
              go_loopg [9, 10, 11] (s.size + 1) (fun m v9 v10 v11 wr => ∃ k : Nat, k + m = s.size + 1 ∧ v11 = .int .i64 k ∧ Aside0 (Kd.R Kd.string 9 wr w3.heap.size (fun _ => True) v9 (wst s k).1) ∧
                Aside0 (Kd.R (Kd.int .u8) 5 wr w3.heap.size (fun _ => True) v10 (nowL s (wst s k).2 k)) ∧ Aside0 (Below w3.heap.size w3 wr))
              case atStart => exact ⟨0, by omega, rfl, hW0', ⟨by rw [wst, nowL_nil]; exact hN0'.out⟩, hB0'⟩
              case round =>
                clear hW0' hN0' hB0'
                obtain ⟨k, hk, rfl, hW, hN, hB⟩ := hrel
                cases gk with
                | zero =>
                  obtain rfl : k = s.size + 1 := by omega
                  go_wp2_with fail
                  go_meet
                  case rel => exact ⟨hW, hB⟩
                | succ m =>
                  go_upto_region 28 with fail
                  go_cut [98] (fun v wd => (∃ b : Bool, v = .bool b ∧ Aside0 (b = decide (k < s.size ∧ bl s k = false))) ∧ wd = wr)
                  case first =>
                    by_cases hlt : k < s.size
                    · have hat := bl_at hlt
                      by_cases hb : bl s k = true
                      · have hd : decide (k < s.size ∧ bl s k = false) = false := decide_eq_false (fun h => by rw [hb] at h; simp at h)
                        rw [hb] at hat
                        have hd' := Aside0.mk hd
                        clear hb hd
                        go_wp2_with (first | (go_at_call 39; (refine (blank_c _ _).mono ?_); rintro e w9 ⟨rfl, rfl⟩))
                        go_meet
                        case rel => exact ⟨⟨_, rfl, ⟨hd'.out.symm⟩⟩, rfl⟩
                      · have hb2 : bl s k = false := Bool.eq_false_iff.2 hb
                        have hd : decide (k < s.size ∧ bl s k = false) = true := decide_eq_true ⟨hlt, hb2⟩
                        rw [hb2] at hat
                        have hd' := Aside0.mk hd
                        clear hb hb2 hd
                        go_wp2_with (first | (go_at_call 39; (refine (blank_c _ _).mono ?_); rintro e w9 ⟨rfl, rfl⟩))
                        go_meet
                        case rel => exact ⟨⟨_, rfl, ⟨hd'.out.symm⟩⟩, rfl⟩
                    · have hd := Aside0.mk (show decide (k < s.size ∧ bl s k = false) = false from decide_eq_false (fun h => hlt h.1))
                      go_wp2_with fail
                      go_meet
                      case rel => exact ⟨⟨_, rfl, ⟨hd.out.symm⟩⟩, rfl⟩
                  case rest =>
                    obtain ⟨⟨b, rfl, hb⟩, rfl⟩ := hcut
                    have hks : k ≤ s.size := by omega
                    have hle := wst_le s k
                    have hnl := nowL_len (a := (wst s k).2) hks
                    cases b with
                    | true =>
                      have hin := of_decide_eq_true hb.out.symm
                      have hlt := hin.1
                      have hx := bt_nat hlt
                      have hsn := Aside0.mk (nowL_snoc hle.1 hlt)
                      have hwi := Aside0.mk (wst_in hin.1 hin.2)
                      have hnl' := Aside0.mk hnl
                      clear hb hin hnl
                      go_wp2_with (first | ((with_reducible refine gate_builtin (b := .append) (xs := #[.tmp 99, .tmp 103]) rfl ?_); at_builtin; refine Kd.R_append (Kd.int .u8) (w0 := w3) w3.heap.size rfl (.tmp 99) (.tmp 103) 37 5 (.int .u8 0) 1 rfl Try.underlying37 info5 rfl (by decide) (by omega) u10 (nowL s (wst s k).2 k) (bt s k) [.int .u8 (bt s k)] (fun _ => True) (fun _ => False) rfl rfl ?aP (fun _ hk => hk.elim) ?aF ?aO ?aB ?aS ?aL ?_; (case aP => exact rfl); (case aB => exact hB.out); (case aF => exact (fun _ _ => trivial)); (case aO => exact hN.out); (case aS => exact below_size hB.out); (case aL => rw [hnl'.out]; omega); intro v1 w4 ho hb hg hat; have hW4 := Aside0.mk (Kd.R_over hW.out hN.out (by decide) hg); have hN4 := Aside0.mk ho; have hB4 := Aside0.mk hb; clear ho hb hg hat hW hN hB))
                      go_roundg m
                      case measure => omega
                      case rel => exact ⟨k + 1, by omega, by simp, by rw [hwi.out]; exact hW4, by rw [hwi.out, hsn.out]; exact hN4, hB4⟩
                    | false =>
                      have hin := of_decide_eq_false hb.out.symm
                      obtain ⟨A, c, hA⟩ := Kd.R_slice hN.out
                      rw [hnl] at hA
                      subst hA
                      have hst := own_string (P := Try.prog) Try.underlying37 Try.underlying5 Try.underlying9 (Kd.own_of_R hN.out)
                      rw [nowL_str] at hst
                      clear hb hnl
                      by_cases h3 : (wst s k).2 < k
                      · have hwo := Aside0.mk (wst_out hin h3)
                        have h4 : 0 < k - (wst s k).2 := by omega
                        have hle2 : (wst s k).1.length ≤ 500 := by omega
                        have hle2' := Aside0.mk hle2
                        have hin' := Aside0.mk hin
                        clear hin hle hle2
                        go_wp2_with (first | ((with_reducible refine gate_builtin (b := .append) (xs := #[.tmp 108, .tmp 111]) rfl ?_); at_builtin; refine Kd.R_append Kd.string (w0 := w3) w3.heap.size rfl (.tmp 108) (.tmp 111) 30 9 (.string ⟨#[]⟩) 16 rfl Try.underlying30 info9 rfl (by decide) (by omega) u9 (wst s k).1 (s.extract (wst s k).2 k) [.string (s.extract (wst s k).2 k)] (fun _ => True) (fun _ => False) rfl rfl ?bP (fun _ hk => hk.elim) ?bF ?bO ?bB ?bS ?bL ?_; (case bP => exact rfl); (case bB => exact hB.out); (case bF => exact (fun _ _ => trivial)); (case bO => exact hW.out); (case bS => exact below_size hB.out); (case bL => have := hle2'.out; omega); intro v1 w4 ho hb hg hat; have hW4 := Aside0.mk ho; have hB4 := Aside0.mk hb; clear ho hb hg hat hW hN hB hst))
                        go_roundg m
                        case measure => omega
                        case rel => exact ⟨k + 1, by omega, by simp, by rw [hwo.out]; exact hW4, by rw [hwo.out, nowL_nil]; exact ⟨Kd.R_nil _ _ _ _ _⟩, hB4⟩
                      · have hwo := Aside0.mk (wst_no hin h3)
                        have h4 : k - (wst s k).2 = 0 := by omega
                        rw [h4]
                        clear h4 hst
                        have hin' := Aside0.mk hin
                        clear hin hle
                        go_wp2_with fail
                        go_roundg m
                        case measure => omega
                        case rel => exact ⟨k + 1, by omega, by simp, by rw [hwo.out]; exact hW, by rw [hwo.out, nowL_nil]; exact ⟨Kd.R_nil _ _ _ _ _⟩, hB⟩
            case rest =>
              clear hW0' hN0' hB0'
              obtain ⟨hW, hB⟩ := hcut
              obtain ⟨w5, rfl⟩ : ∃ w5 : World, w5 = wc := ⟨_, rfl⟩
              have hw0 := hW.out
              have hq0 := words_eq hl
              have hwl : (wst s (s.size + 1)).1.length ≤ 501 := Nat.le_trans (wst_le s (s.size + 1)).2 (by omega)
              generalize (wst s (s.size + 1)).1 = ws at hw0 hq0 hwl
              obtain ⟨A, c, rfl⟩ := Kd.R_slice hw0
              have hW := Aside0.mk hw0
              have hq := Aside0.mk hq0
              clear hw0 hq0
              go_upto_block 8 with (first | (go_at_call 41; (with_reducible refine (text_Words.calls _ s _ _ hq.out).mono ?_); rintro e w6 ⟨v, rfl, hR, hb⟩; obtain ⟨A2, c2, rfl⟩ := Kd.R_slice hR; have hC2 := Aside0.mk (Kd.R_reads' hR).2.2; have hC1 := Aside0.mk (Kd.C_below (Kd.R_reads' hW.out).2.2 hb); have hB6 := Aside0.mk (below_step hB.out hb); clear hR hb hW hB))
              go_wp2_with fail
              go_loopw [122] (fun v wr => ∃ k : Nat, v = .int .i64 k ∧ k ≤ ws.length ∧ ∃ d, wr = w6.drewN d)
                (fun v _ => ws.length - (intOf v).toNat)
              case atStart => exact ⟨0, rfl, Nat.zero_le _, 0, rfl⟩
              case round =>
                obtain ⟨k, rfl, hk, d, rfl⟩ := hrel
                by_cases hlt : k < ws.length
                · obtain ⟨a1, rfl, h1⟩ := Kd.at_string hC1.out (k : Int) (by omega) (by omega)
                  obtain ⟨a2, rfl, h2⟩ := Kd.at_string hC2.out (k : Int) (by omega) (by omega)
                  rw [Int.toNat_natCast] at h1 h2
                  generalize rdOf ByteArray.empty ws (k : Int) = x at h1 h2
                  have hlt1 : (0 : Int) ≤ (k : Int) := by omega
                  have hlt2 : (k : Int) < (ws.length : Int) := by omega
                  go_wp2_with fail
                  go_quiet (fail)
                  go_wp2_with fail
                  go_roundw
                  case rel => exact ⟨k + 1, by simp, hlt, d + nq, by first | rfl | simp⟩
                  case measure => simp only [intOf]; omega
                · obtain rfl : k = ws.length := by omega
                  go_wp2_with fail
                  go_ret
                  exact ⟨rfl, hBd.trans ((pw_below_drewN hB6.out d).mono hBd.size)⟩
end Go.Proofs.Ytccadgnbomgpcaa.Tx
