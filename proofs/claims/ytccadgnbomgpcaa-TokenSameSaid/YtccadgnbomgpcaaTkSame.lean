/-
  TokenSame: for any token whose texts are shorter than 2^62 bytes, and any number, the statement's function returns true.
-/
import Derived.Test.YtccadgnbomgpcaaTkSameTok
import Derived.Test.YtccadgnbomgpcaaTkHead
namespace Go.Proofs.Ytccadgnbomgpcaa.Tk
open Go.RowKit Go.Proofs.YtccadgnbomgpcaaW.PrintWords Go.Proofs.YtccadgnbomgpcaaW.PrintLast Go.Proofs.YtccadgnbomgpcaaW.PrintMore

/-- A token's block, cell by cell. -/
theorem cells10 {W : World} {g : Nat} {c0 c1 c2 c3 c4 c5 c6 c7 c8 c9 : Value} (h : W.heap[g]? = some (.cells #[c0, c1, c2, c3, c4, c5, c6, c7, c8, c9] 24 (0, 0))) :
    W.cell? ⟨g, 0, none⟩ = some c0 ∧ W.cell? ⟨g, 1, none⟩ = some c1 ∧ W.cell? ⟨g, 2, none⟩ = some c2 ∧ W.cell? ⟨g, 3, none⟩ = some c3 ∧ W.cell? ⟨g, 4, none⟩ = some c4 ∧ W.cell? ⟨g, 5, none⟩ = some c5 ∧ W.cell? ⟨g, 6, none⟩ = some c6 ∧ W.cell? ⟨g, 7, none⟩ = some c7 ∧ W.cell? ⟨g, 8, none⟩ = some c8 ∧ W.cell? ⟨g, 9, none⟩ = some c9 :=
  ⟨cell_of_row W g 0 _ 24 (0, 0) h, cell_of_row W g 1 _ 24 (0, 0) h, cell_of_row W g 2 _ 24 (0, 0) h, cell_of_row W g 3 _ 24 (0, 0) h, cell_of_row W g 4 _ 24 (0, 0) h, cell_of_row W g 5 _ 24 (0, 0) h, cell_of_row W g 6 _ 24 (0, 0) h, cell_of_row W g 7 _ 24 (0, 0) h, cell_of_row W g 8 _ 24 (0, 0) h, cell_of_row W g 9 _ 24 (0, 0) h⟩

/-- What is known of the world: the two tokens' blocks, the second one's attributes, the first one's; all that lay before is unturned. -/
structure St (w : World) (Ba Bb base : Nat) (ca cb : Array Value) (v : Value) (m : List S28) (A2 : Option Addr) (l2 : List S28) (W : World) : Prop where
  ha : W.heap[Ba]? = some (.cells ca 24 (0, 0))
  hb : W.heap[Bb]? = some (.cells cb 24 (0, 0))
  row : Kd.R k28 28 W base (fun _ => True) v m
  rd : Kd.C k28 W A2 l2.length l2
  below : Below w.heap.size w W
theorem St.step {w : World} {Ba Bb base : Nat} {ca cb : Array Value} {v : Value} {m : List S28} {A2 : Option Addr} {l2 : List S28} {W W1 : World} (h : St w Ba Bb base ca cb v m A2 l2 W) (hb : Below W.heap.size W W1) : St w Ba Bb base ca cb v m A2 l2 W1 :=
  ⟨(hb.block Ba (blk_lt h.ha)).trans h.ha, (hb.block Bb (blk_lt h.hb)).trans h.hb, Kd.R_below h.row hb, Kd.C_below h.rd hb, below_step h.below hb⟩
/-- A field of the second token is written. -/
theorem St.field {w : World} {Ba Bb base : Nat} {ca cb : Array Value} {v : Value} {m : List S28} {A2 : Option Addr} {l2 : List S28} {W : World} (h : St w Ba Bb base ca cb v m A2 l2 W) (hne : Ba ≠ Bb) (hle : w.heap.size ≤ Bb) (j : Nat) (u : Value) (hr : Kd.C k28 (W.setCell ⟨Bb, j, none⟩ u) A2 l2.length l2) :
    St w Ba Bb base ca (cb.setIfInBounds j u) v m A2 l2 (W.setCell ⟨Bb, j, none⟩ u) :=
  ⟨blk_far h.ha hne u, blk_set h.hb j u, Kd.R_set h.row h.hb (by decide) j u, hr, below_set h.below hle⟩

theorem same_callsN (a0 : Int) (a1 : ByteArray) (A2 : Option Addr) (c2 : Nat) (l2 : List S28) (a3 : Bool) (a4 a5 a6 : ByteArray) (a7 a8 a9 : Bool)
    (b0 : Int) (b1 : ByteArray) (B2 : Option Addr) (d2 : Nat) (m2 : List S28) (b3 : Bool) (b4 b5 b6 : ByteArray) (b7 b8 b9 : Bool) (w : World) (n1 n2 : Nat) (e1 : n1 = l2.length) (e2 : n2 = m2.length)
    (hr : Kd.C k28 w A2 l2.length l2) (hc : l2.length ≤ c2) (hr' : Kd.C k28 w B2 m2.length m2) (hc' : m2.length ≤ d2) (hl : l2.length < 4398046511104) :
    Calls Try.prog 15 #[.agg #[.int .i64 a0, .string a1, .slice A2 n1 c2, .bool a3, .string a4, .string a5, .string a6, .bool a7, .bool a8, .bool a9], .agg #[.int .i64 b0, .string b1, .slice B2 n2 d2, .bool b3, .string b4, .string b5, .string b6, .bool b7, .bool b8, .bool b9]] w
      fun e w' => e = .returned (.bool (decide (l2 = m2) && sameRest a0 a1 a3 a4 a5 a6 a7 a8 a9 b0 b1 b3 b4 b5 b6 b7 b8 b9)) ∧ Below w.heap.size w w' := by
  subst e1 e2
  exact same_calls a0 a1 A2 c2 l2 a3 a4 a5 a6 a7 a8 a9 b0 b1 B2 d2 m2 b3 b4 b5 b6 b7 b8 b9 w hr hc hr' hc' hl

/-- A row's reading, its length as a number. -/
theorem RN {w : World} {base n c : Nat} {A : Option Addr} {m : List S28} (_hn : n = m.length) (h : Kd.R k28 28 w base (fun _ => True) (.slice A n c) m) : Kd.C k28 w A m.length m := (Kd.R_reads' h).2.2
theorem self_same (l : List S28) (a0 : Int) (a1 : ByteArray) (a3 : Bool) (a4 a5 a6 : ByteArray) (a7 a8 a9 : Bool) : (decide (l = l) && sameRest a0 a1 a3 a4 a5 a6 a7 a8 a9 a0 a1 a3 a4 a5 a6 a7 a8 a9) = true := by simp [sameRest]

theorem wrap_ne (a : Int) : ¬ a = wrap64 (a + 1) := by
  unfold wrap64
  omega
theorem more_ne (a : ByteArray) : (a.toList == (a ++ (⟨#[120]⟩ : ByteArray)).toList) = false := by
  rw [bytes_beq, decide_eq_false_iff_not]
  intro e
  have := congrArg ByteArray.size e
  rw [ByteArray.size_append] at this
  have h : (⟨#[120]⟩ : ByteArray).size = 1 := rfl
  omega
theorem more_ne' (a : ByteArray) : ((a ++ (⟨#[120]⟩ : ByteArray)).toList == a.toList) = false := by
  rw [BEq.comm]
  exact more_ne a
theorem snoc_ne {l : List S28} {x : S28} : ¬ l = l ++ [x] := by
  intro e
  have := congrArg List.length e
  simp at this
theorem snoc_ne' {l : List S28} {x : S28} : ¬ l ++ [x] = l := fun e => snoc_ne e.symm

/-- The ways of the switch. -/
theorem switch_ways (n : Int) : (n == 0) = true ∨ ((n == 0) = false ∧ (n == 1) = true) ∨ ((n == 0) = false ∧ (n == 1) = false ∧ (n == 2) = true) ∨ ((n == 0) = false ∧ (n == 1) = false ∧ (n == 2) = false ∧ (n == 3) = true) ∨
    ((n == 0) = false ∧ (n == 1) = false ∧ (n == 2) = false ∧ (n == 3) = false ∧ (n == 4) = true) ∨ ((n == 0) = false ∧ (n == 1) = false ∧ (n == 2) = false ∧ (n == 3) = false ∧ (n == 4) = false ∧ (n == 5) = true) ∨
    ((n == 0) = false ∧ (n == 1) = false ∧ (n == 2) = false ∧ (n == 3) = false ∧ (n == 4) = false ∧ (n == 5) = false ∧ (n == 6) = true) ∨ ((n == 0) = false ∧ (n == 1) = false ∧ (n == 2) = false ∧ (n == 3) = false ∧ (n == 4) = false ∧ (n == 5) = false ∧ (n == 6) = false ∧ (n == 7) = true) ∨
    ((n == 0) = false ∧ (n == 1) = false ∧ (n == 2) = false ∧ (n == 3) = false ∧ (n == 4) = false ∧ (n == 5) = false ∧ (n == 6) = false ∧ (n == 7) = false ∧ (n == 8) = true) ∨
    ((n == 0) = false ∧ (n == 1) = false ∧ (n == 2) = false ∧ (n == 3) = false ∧ (n == 4) = false ∧ (n == 5) = false ∧ (n == 6) = false ∧ (n == 7) = false ∧ (n == 8) = false ∧ (n == 9) = true) ∨
    ((n == 0) = false ∧ (n == 1) = false ∧ (n == 2) = false ∧ (n == 3) = false ∧ (n == 4) = false ∧ (n == 5) = false ∧ (n == 6) = false ∧ (n == 7) = false ∧ (n == 8) = false ∧ (n == 9) = false) := by
  by_cases h0 : n = 0
  · simp [h0]
  by_cases h1 : n = 1
  · simp [h1]
  by_cases h2 : n = 2
  · simp [h2]
  by_cases h3 : n = 3
  · simp [h3]
  by_cases h4 : n = 4
  · simp [h4]
  by_cases h5 : n = 5
  · simp [h5]
  by_cases h6 : n = 6
  · simp [h6]
  by_cases h7 : n = 7
  · simp [h7]
  by_cases h8 : n = 8
  · simp [h8]
  by_cases h9 : n = 9
  · simp [h9]
  simp [h0, h1, h2, h3, h4, h5, h6, h7, h8, h9]

set_option maxHeartbeats 16000000 in
set_option maxRecDepth 100000 in
theorem tokenSame_calls (a0 : Int) (a1 : ByteArray) (A2 : Option Addr) (c2 : Nat) (l2 : List S28) (a3 : Bool) (a4 a5 a6 : ByteArray) (a7 a8 a9 : Bool) (which : Int) (w : World)
    (hr : Kd.C k28 w A2 l2.length l2) (hc : l2.length ≤ c2) (z1 : a1.size < 4611686018427387904) (z4 : a4.size < 4611686018427387904) (z5 : a5.size < 4611686018427387904) (z6 : a6.size < 4611686018427387904) (zq : ∀ q ∈ l2, q.f1.size < 4611686018427387904) :
    Calls Try.prog 3 #[.agg #[.int .i64 a0, .string a1, (Value.slice A2 l2.length c2), .bool a3, .string a4, .string a5, .string a6, .bool a7, .bool a8, .bool a9], .int .i64 which] w
      fun e w' => e = .returned (.bool true) ∧ Below w.heap.size w w' := by
  have hu24 := Try.underlying24
  have HR := Aside0.mk hr
  have HC := Aside0.mk hc
  have HZ := Aside0.mk zq
  have HSW := Aside0.mk (switch_ways (Go.bits .and .i64 which 15))
  clear hr hc zq
  go_enter Try.func3, Try.ntmps3
  go_wp2_with fail
  refine (woodcutlaw07_head.calls true _ rfl).mono ?_
  rintro e w1 ⟨rfl, hb1⟩
  have hk := heap_alloc_new w (.cells #[.int .i64 a0, .string a1, (Value.slice A2 l2.length c2), .bool a3, .string a4, .string a5, .string a6, .bool a7, .bool a8, .bool a9] 24)
  have HA1 := Aside0.mk ((hb1.block w.heap.size (by simp)).trans hk)
  have HB1 := Aside0.mk (((Below.refl _ w).alloc (Nat.le_refl _) _).trans (hb1.mono (by simp)))
  have hsz : w.heap.size < w1.heap.size := by have := hb1.size; simp at this; omega
  clear hb1 hk
  obtain ⟨hx0, hx1, hx2, hx3, hx4, hx5, hx6, hx7, hx8, hx9⟩ := cells10 HA1.out
  by_cases h30 : (l2.length : Int) > 30
  · have h30' : decide (30 < (l2.length : Int)) = true := by simpa using h30
    go_wp2
    go_ret
    exact ⟨rfl, HB1.out⟩
  · have h30' : decide (30 < (l2.length : Int)) = false := by simpa using h30
    have HL := Aside0.mk (show l2.length < 4398046511104 by omega)
    have HL9 := Aside0.mk (show (l2 ++ [(⟨⟨#[120]⟩, ⟨#[]⟩⟩ : S28)]).length < 4398046511104 by simp; omega)
    clear h30
    go_wp2_with (first
      | ((with_reducible refine gate_dst (N := 13) rfl ?_); refine Kd.R_lit k28 _ 28 ?hg (N := 13) ?hd (xs := ([] : List S28)) (inner := []) (ok := fun _ => True) (okp := fun _ => True) ?hr ?hp (fun _ hk => hk) trivial (Below.refl _ _) (Nat.le_refl _) (by simp) ?_; (case hd => rfl); (case hg => rfl); (case hr => first | (go_simp; done) | (go_simp; rfl)); (case hp => exact (Reps.none _ _)); intro v3 w3 ho hb3 _ _; have HO3 := Aside0.mk ho; have HB3 := Aside0.mk hb3; clear ho hb3; have hk3 := (HB3.out.block w.heap.size (by simp; omega)).trans ((Below.heap_alloc w1 _ w.heap.size hsz).trans HA1.out); have hx3 := (cells10 hk3).2.2.1; clear hk3)
      | ((with_reducible refine gate_builtin (b := .append) (xs := #[.tmp 13, .tmp 15]) rfl ?_); at_builtin; refine Kd.R_append_rows k28 (w0 := w1.alloc (.cells #[.int .i64 a0, .string a1, (Value.slice A2 l2.length c2), .bool a3, .string a4, .string a5, .string a6, .bool a7, .bool a8, .bool a9] 24)) (w1.alloc (.cells #[.int .i64 a0, .string a1, (Value.slice A2 l2.length c2), .bool a3, .string a4, .string a5, .string a6, .bool a7, .bool a8, .bool a9] 24)).heap.size rfl (.tmp 13) (.tmp 15) 22 28 (.agg #[(.string ⟨#[]⟩), (.string ⟨#[]⟩)]) 32 rfl Try.underlying22 info28 rfl (by decide) (by omega) v3 [] l2 _ _ _ (fun _ => True) (fun _ => False) rfl rfl ?aO ?aR (fun _ _ h => h) (fun _ h => h.elim) ?aF ?aB ?aS ?aL ?_; (case aR => exact (Kd.C_below HR.out (below_step (below_alloc HB1.out _) HB3.out))); (case aB => exact HB3.out); (case aF => exact (fun _ _ => trivial)); (case aO => exact HO3.out); (case aS => exact HB3.out.size); (case aL => have := HL.out; simp; omega); intro v4 w4 ho hb _ _; rw [List.nil_append] at ho; have HO4 := Aside0.mk ho; have HB4 := Aside0.mk hb; clear ho hb HO3 HB3; have hk4 := (HB4.out.block w.heap.size (by simp; omega)).trans ((Below.heap_alloc w1 _ w.heap.size hsz).trans HA1.out); have hk4b := (HB4.out.block w1.heap.size (by simp)).trans (heap_alloc_new w1 _); have hcb := (cells10 hk4b).2.2.1; have hfb := blk_frozen hk4b 2; have HK4 := Aside0.mk hk4; have HK4b := Aside0.mk hk4b; clear hk4 hk4b; obtain ⟨Ao, co, eo⟩ := Kd.R_slice HO4.out; subst eo)
      | ((with_reducible refine gate_store (t := 22) (p := 17) rfl ?_); refine store_event (t := 22) (p := 17) (v := .tmp 16) (w1 := (w4.setCell ⟨w1.heap.size, 2, none⟩ (.slice Ao l2.length co))) ?hg ?ho ?hn ?hr ?_; (case ho => rfl); (case hg => rfl); (case hn => rfl); (case hr => first | (go_simp; done) | (go_simp; rfl)); intro w5 hw; have HW5 := Aside0.mk hw; clear hw; have HA5 := Aside0.mk (show w5.heap[w.heap.size]? = some (.cells #[.int .i64 a0, .string a1, (Value.slice A2 l2.length c2), .bool a3, .string a4, .string a5, .string a6, .bool a7, .bool a8, .bool a9] 24 (0, 0)) from by rw [HW5.out, Below.heap_setCell w4 ⟨w1.heap.size, 2, none⟩ _ w.heap.size (Nat.ne_of_lt hsz)]; exact HK4.out); have HBk5 := Aside0.mk (show w5.heap[w1.heap.size]? = some (.cells #[.int .i64 a0, .string a1, (Value.slice Ao l2.length co), .bool a3, .string a4, .string a5, .string a6, .bool a7, .bool a8, .bool a9] 24 (0, 0)) from by rw [HW5.out]; exact blk_set HK4b.out 2 _); have HO5 := Aside0.mk (show Kd.R k28 28 w5 (w1.heap.size + 1) (fun _ => True) (.slice Ao l2.length co) l2 from by rw [HW5.out]; exact Kd.R_lower (Kd.R_set HO4.out HK4b.out (by decide) 2 _) (by simp)); have HB5 := Aside0.mk (show Below w.heap.size w w5 from by rw [HW5.out]; exact below_set (below_step (below_alloc HB1.out _) HB4.out) (Nat.le_of_lt hsz)); have HS5 := Aside0.mk (St.mk (w := w) HA5.out HBk5.out HO5.out (Kd.C_below HR.out HB5.out) HB5.out); clear HK4 HK4b HO4 HB4 HW5 hcb hfb HA5 HBk5 HO5 HB5; obtain ⟨ha0, ha1, ha2, ha3, ha4, ha5, ha6, ha7, ha8, ha9⟩ := cells10 HS5.out.ha; obtain ⟨hb0, hb1, hb2, hb3, hb4, hb5, hb6, hb7, hb8, hb9⟩ := cells10 HS5.out.hb))
    have HCo := Aside0.mk (Kd.R_reads' HS5.out.row).2.1
    refine (same_calls _ _ _ _ _ _ _ _ _ _ _ _ _ _ _ _ _ _ _ _ _ _ _ _ _ HS5.out.rd HC.out (Kd.R_reads' HS5.out.row).2.2 HCo.out HL.out).mono ?_
    rintro e w6 ⟨he, hw6⟩
    rw [self_same] at he
    subst he
    have HS6 := Aside0.mk (HS5.out.step hw6)
    clear hw6 HS5 ha0 ha1 ha2 ha3 ha4 ha5 ha6 ha7 ha8 ha9 hb0 hb1 hb2 hb3 hb4 hb5 hb6 hb7 hb8 hb9 hx0 hx1 hx2 hx3 hx4 hx5 hx6 hx7 hx8 hx9
    obtain ⟨ha0, ha1, ha2, ha3, ha4, ha5, ha6, ha7, ha8, ha9⟩ := cells10 HS6.out.ha
    obtain ⟨hb0, hb1, hb2, hb3, hb4, hb5, hb6, hb7, hb8, hb9⟩ := cells10 HS6.out.hb
    go_wp2_with fail
    refine (same_calls _ _ _ _ _ _ _ _ _ _ _ _ _ _ _ _ _ _ _ _ _ _ _ _ _ (Kd.R_reads' HS6.out.row).2.2 HCo.out HS6.out.rd HC.out HL.out).mono ?_
    rintro e w7 ⟨he, hw7⟩
    rw [self_same] at he
    subst he
    have HS7 := Aside0.mk (HS6.out.step hw7)
    clear hw7 HS6 ha0 ha1 ha2 ha3 ha4 ha5 ha6 ha7 ha8 ha9 hb0 hb1 hb2 hb3 hb4 hb5 hb6 hb7 hb8 hb9
    obtain ⟨ha0, ha1, ha2, ha3, ha4, ha5, ha6, ha7, ha8, ha9⟩ := cells10 HS7.out.ha
    obtain ⟨hb0, hb1, hb2, hb3, hb4, hb5, hb6, hb7, hb8, hb9⟩ := cells10 HS7.out.hb
    have hg0 := blk_frozen HS7.out.hb 0
    have hg1 := blk_frozen HS7.out.hb 1
    have hg3 := blk_frozen HS7.out.hb 3
    have hg4 := blk_frozen HS7.out.hb 4
    have hg5 := blk_frozen HS7.out.hb 5
    have hg6 := blk_frozen HS7.out.hb 6
    have hg7 := blk_frozen HS7.out.hb 7
    have hg8 := blk_frozen HS7.out.hb 8
    have hg9 := blk_frozen HS7.out.hb 9
    clear HB1 HA1 h30'
    rcases HSW.out with h0 | ⟨h0, h1⟩ | ⟨h0, h1, h2⟩ | ⟨h0, h1, h2, h3⟩ | ⟨h0, h1, h2, h3, h4⟩ | ⟨h0, h1, h2, h3, h4, h5⟩ | ⟨h0, h1, h2, h3, h4, h5, h6⟩ | ⟨h0, h1, h2, h3, h4, h5, h6, h7⟩ | ⟨h0, h1, h2, h3, h4, h5, h6, h7, h8⟩ | ⟨h0, h1, h2, h3, h4, h5, h6, h7, h8, h9⟩ | ⟨h0, h1, h2, h3, h4, h5, h6, h7, h8, h9⟩
    · clear HSW
      go_wp2_with fail
      have HS8 := Aside0.mk (HS7.out.field (Nat.ne_of_lt hsz) (Nat.le_of_lt hsz) 0 (.int .i64 (wrap64 (a0 + 1))) (Kd.C_below HR.out (below_set HS7.out.below (Nat.le_of_lt hsz))))
      clear HS7 ha0 ha1 ha2 ha3 ha4 ha5 ha6 ha7 ha8 ha9 hb0 hb1 hb2 hb3 hb4 hb5 hb6 hb7 hb8 hb9 hg0 hg1 hg3 hg4 hg5 hg6 hg7 hg8 hg9
      have hdx : (decide (l2 = l2) && sameRest a0 a1 a3 a4 a5 a6 a7 a8 a9 (wrap64 (a0 + 1)) a1 a3 a4 a5 a6 a7 a8 a9) = false := by
        have hne := wrap_ne a0
        have hne2 : ¬ wrap64 (a0 + 1) = a0 := fun e => hne e.symm
        simp [sameRest, hne]
      refine (same_calls _ _ _ _ _ _ _ _ _ _ _ _ _ _ _ _ _ _ _ _ _ _ _ _ _ HS8.out.rd HC.out (Kd.R_reads' HS8.out.row).2.2 HCo.out HL.out).mono ?_
      rintro e w8 ⟨he, hw8⟩
      rw [hdx] at he
      subst he
      have HS9 := Aside0.mk (HS8.out.step hw8)
      clear hw8 HS8 hdx
      obtain ⟨ha0, ha1, ha2, ha3, ha4, ha5, ha6, ha7, ha8, ha9⟩ := cells10 HS9.out.ha
      obtain ⟨hb0, hb1, hb2, hb3, hb4, hb5, hb6, hb7, hb8, hb9⟩ := cells10 HS9.out.hb
      go_wp2_with fail
      have hdy : (decide (l2 = l2) && sameRest (wrap64 (a0 + 1)) a1 a3 a4 a5 a6 a7 a8 a9 a0 a1 a3 a4 a5 a6 a7 a8 a9) = false := by
        have hne := wrap_ne a0
        have hne2 : ¬ wrap64 (a0 + 1) = a0 := fun e => hne e.symm
        simp [sameRest, hne2]
      refine (same_calls _ _ _ _ _ _ _ _ _ _ _ _ _ _ _ _ _ _ _ _ _ _ _ _ _ (Kd.R_reads' HS9.out.row).2.2 HCo.out HS9.out.rd HC.out HL.out).mono ?_
      rintro e w10 ⟨he, hw10⟩
      rw [hdy] at he
      subst he
      have HB10 := Aside0.mk (HS9.out.step hw10).below
      clear hw10 HS9 hdy ha0 ha1 ha2 ha3 ha4 ha5 ha6 ha7 ha8 ha9 hb0 hb1 hb2 hb3 hb4 hb5 hb6 hb7 hb8 hb9
      go_wp2
      go_ret
      exact ⟨rfl, HB10.out⟩
    · clear HSW
      have hz : a1.size + 1 ≤ 9223372036854775807 := by omega
      go_wp2_with fail
      have HS8 := Aside0.mk (HS7.out.field (Nat.ne_of_lt hsz) (Nat.le_of_lt hsz) 1 (.string (a1 ++ (⟨#[120]⟩ : ByteArray))) (Kd.C_below HR.out (below_set HS7.out.below (Nat.le_of_lt hsz))))
      clear HS7 ha0 ha1 ha2 ha3 ha4 ha5 ha6 ha7 ha8 ha9 hb0 hb1 hb2 hb3 hb4 hb5 hb6 hb7 hb8 hb9 hg0 hg1 hg3 hg4 hg5 hg6 hg7 hg8 hg9
      have hdx : (decide (l2 = l2) && sameRest a0 a1 a3 a4 a5 a6 a7 a8 a9 a0 (a1 ++ (⟨#[120]⟩ : ByteArray)) a3 a4 a5 a6 a7 a8 a9) = false := by simp [sameRest, more_ne]
      refine (same_calls _ _ _ _ _ _ _ _ _ _ _ _ _ _ _ _ _ _ _ _ _ _ _ _ _ HS8.out.rd HC.out (Kd.R_reads' HS8.out.row).2.2 HCo.out HL.out).mono ?_
      rintro e w8 ⟨he, hw8⟩
      rw [hdx] at he
      subst he
      have HS9 := Aside0.mk (HS8.out.step hw8)
      clear hw8 HS8 hdx
      obtain ⟨ha0, ha1, ha2, ha3, ha4, ha5, ha6, ha7, ha8, ha9⟩ := cells10 HS9.out.ha
      obtain ⟨hb0, hb1, hb2, hb3, hb4, hb5, hb6, hb7, hb8, hb9⟩ := cells10 HS9.out.hb
      go_wp2_with fail
      have hdy : (decide (l2 = l2) && sameRest a0 (a1 ++ (⟨#[120]⟩ : ByteArray)) a3 a4 a5 a6 a7 a8 a9 a0 a1 a3 a4 a5 a6 a7 a8 a9) = false := by simp [sameRest, more_ne']
      refine (same_calls _ _ _ _ _ _ _ _ _ _ _ _ _ _ _ _ _ _ _ _ _ _ _ _ _ (Kd.R_reads' HS9.out.row).2.2 HCo.out HS9.out.rd HC.out HL.out).mono ?_
      rintro e w10 ⟨he, hw10⟩
      rw [hdy] at he
      subst he
      have HB10 := Aside0.mk (HS9.out.step hw10).below
      clear hw10 HS9 hdy ha0 ha1 ha2 ha3 ha4 ha5 ha6 ha7 ha8 ha9 hb0 hb1 hb2 hb3 hb4 hb5 hb6 hb7 hb8 hb9
      go_wp2
      go_ret
      exact ⟨rfl, HB10.out⟩
    · clear HSW
      go_wp2_with fail
      have HS8 := Aside0.mk (HS7.out.field (Nat.ne_of_lt hsz) (Nat.le_of_lt hsz) 3 (.bool (!a3)) (Kd.C_below HR.out (below_set HS7.out.below (Nat.le_of_lt hsz))))
      clear HS7 ha0 ha1 ha2 ha3 ha4 ha5 ha6 ha7 ha8 ha9 hb0 hb1 hb2 hb3 hb4 hb5 hb6 hb7 hb8 hb9 hg0 hg1 hg3 hg4 hg5 hg6 hg7 hg8 hg9
      have hdx : (decide (l2 = l2) && sameRest a0 a1 a3 a4 a5 a6 a7 a8 a9 a0 a1 (!a3) a4 a5 a6 a7 a8 a9) = false := by simp [sameRest]
      refine (same_calls _ _ _ _ _ _ _ _ _ _ _ _ _ _ _ _ _ _ _ _ _ _ _ _ _ HS8.out.rd HC.out (Kd.R_reads' HS8.out.row).2.2 HCo.out HL.out).mono ?_
      rintro e w8 ⟨he, hw8⟩
      rw [hdx] at he
      subst he
      have HS9 := Aside0.mk (HS8.out.step hw8)
      clear hw8 HS8 hdx
      obtain ⟨ha0, ha1, ha2, ha3, ha4, ha5, ha6, ha7, ha8, ha9⟩ := cells10 HS9.out.ha
      obtain ⟨hb0, hb1, hb2, hb3, hb4, hb5, hb6, hb7, hb8, hb9⟩ := cells10 HS9.out.hb
      go_wp2_with fail
      have hdy : (decide (l2 = l2) && sameRest a0 a1 (!a3) a4 a5 a6 a7 a8 a9 a0 a1 a3 a4 a5 a6 a7 a8 a9) = false := by simp [sameRest]
      refine (same_calls _ _ _ _ _ _ _ _ _ _ _ _ _ _ _ _ _ _ _ _ _ _ _ _ _ (Kd.R_reads' HS9.out.row).2.2 HCo.out HS9.out.rd HC.out HL.out).mono ?_
      rintro e w10 ⟨he, hw10⟩
      rw [hdy] at he
      subst he
      have HB10 := Aside0.mk (HS9.out.step hw10).below
      clear hw10 HS9 hdy ha0 ha1 ha2 ha3 ha4 ha5 ha6 ha7 ha8 ha9 hb0 hb1 hb2 hb3 hb4 hb5 hb6 hb7 hb8 hb9
      go_wp2
      go_ret
      exact ⟨rfl, HB10.out⟩
    · clear HSW
      have hz : a4.size + 1 ≤ 9223372036854775807 := by omega
      go_wp2_with fail
      have HS8 := Aside0.mk (HS7.out.field (Nat.ne_of_lt hsz) (Nat.le_of_lt hsz) 4 (.string (a4 ++ (⟨#[120]⟩ : ByteArray))) (Kd.C_below HR.out (below_set HS7.out.below (Nat.le_of_lt hsz))))
      clear HS7 ha0 ha1 ha2 ha3 ha4 ha5 ha6 ha7 ha8 ha9 hb0 hb1 hb2 hb3 hb4 hb5 hb6 hb7 hb8 hb9 hg0 hg1 hg3 hg4 hg5 hg6 hg7 hg8 hg9
      have hdx : (decide (l2 = l2) && sameRest a0 a1 a3 a4 a5 a6 a7 a8 a9 a0 a1 a3 (a4 ++ (⟨#[120]⟩ : ByteArray)) a5 a6 a7 a8 a9) = false := by simp [sameRest, more_ne]
      refine (same_calls _ _ _ _ _ _ _ _ _ _ _ _ _ _ _ _ _ _ _ _ _ _ _ _ _ HS8.out.rd HC.out (Kd.R_reads' HS8.out.row).2.2 HCo.out HL.out).mono ?_
      rintro e w8 ⟨he, hw8⟩
      rw [hdx] at he
      subst he
      have HS9 := Aside0.mk (HS8.out.step hw8)
      clear hw8 HS8 hdx
      obtain ⟨ha0, ha1, ha2, ha3, ha4, ha5, ha6, ha7, ha8, ha9⟩ := cells10 HS9.out.ha
      obtain ⟨hb0, hb1, hb2, hb3, hb4, hb5, hb6, hb7, hb8, hb9⟩ := cells10 HS9.out.hb
      go_wp2_with fail
      have hdy : (decide (l2 = l2) && sameRest a0 a1 a3 (a4 ++ (⟨#[120]⟩ : ByteArray)) a5 a6 a7 a8 a9 a0 a1 a3 a4 a5 a6 a7 a8 a9) = false := by simp [sameRest, more_ne']
      refine (same_calls _ _ _ _ _ _ _ _ _ _ _ _ _ _ _ _ _ _ _ _ _ _ _ _ _ (Kd.R_reads' HS9.out.row).2.2 HCo.out HS9.out.rd HC.out HL.out).mono ?_
      rintro e w10 ⟨he, hw10⟩
      rw [hdy] at he
      subst he
      have HB10 := Aside0.mk (HS9.out.step hw10).below
      clear hw10 HS9 hdy ha0 ha1 ha2 ha3 ha4 ha5 ha6 ha7 ha8 ha9 hb0 hb1 hb2 hb3 hb4 hb5 hb6 hb7 hb8 hb9
      go_wp2
      go_ret
      exact ⟨rfl, HB10.out⟩
    · clear HSW
      have hz : a5.size + 1 ≤ 9223372036854775807 := by omega
      go_wp2_with fail
      have HS8 := Aside0.mk (HS7.out.field (Nat.ne_of_lt hsz) (Nat.le_of_lt hsz) 5 (.string (a5 ++ (⟨#[120]⟩ : ByteArray))) (Kd.C_below HR.out (below_set HS7.out.below (Nat.le_of_lt hsz))))
      clear HS7 ha0 ha1 ha2 ha3 ha4 ha5 ha6 ha7 ha8 ha9 hb0 hb1 hb2 hb3 hb4 hb5 hb6 hb7 hb8 hb9 hg0 hg1 hg3 hg4 hg5 hg6 hg7 hg8 hg9
      have hdx : (decide (l2 = l2) && sameRest a0 a1 a3 a4 a5 a6 a7 a8 a9 a0 a1 a3 a4 (a5 ++ (⟨#[120]⟩ : ByteArray)) a6 a7 a8 a9) = false := by simp [sameRest, more_ne]
      refine (same_calls _ _ _ _ _ _ _ _ _ _ _ _ _ _ _ _ _ _ _ _ _ _ _ _ _ HS8.out.rd HC.out (Kd.R_reads' HS8.out.row).2.2 HCo.out HL.out).mono ?_
      rintro e w8 ⟨he, hw8⟩
      rw [hdx] at he
      subst he
      have HS9 := Aside0.mk (HS8.out.step hw8)
      clear hw8 HS8 hdx
      obtain ⟨ha0, ha1, ha2, ha3, ha4, ha5, ha6, ha7, ha8, ha9⟩ := cells10 HS9.out.ha
      obtain ⟨hb0, hb1, hb2, hb3, hb4, hb5, hb6, hb7, hb8, hb9⟩ := cells10 HS9.out.hb
      go_wp2_with fail
      have hdy : (decide (l2 = l2) && sameRest a0 a1 a3 a4 (a5 ++ (⟨#[120]⟩ : ByteArray)) a6 a7 a8 a9 a0 a1 a3 a4 a5 a6 a7 a8 a9) = false := by simp [sameRest, more_ne']
      refine (same_calls _ _ _ _ _ _ _ _ _ _ _ _ _ _ _ _ _ _ _ _ _ _ _ _ _ (Kd.R_reads' HS9.out.row).2.2 HCo.out HS9.out.rd HC.out HL.out).mono ?_
      rintro e w10 ⟨he, hw10⟩
      rw [hdy] at he
      subst he
      have HB10 := Aside0.mk (HS9.out.step hw10).below
      clear hw10 HS9 hdy ha0 ha1 ha2 ha3 ha4 ha5 ha6 ha7 ha8 ha9 hb0 hb1 hb2 hb3 hb4 hb5 hb6 hb7 hb8 hb9
      go_wp2
      go_ret
      exact ⟨rfl, HB10.out⟩
    · clear HSW
      have hz : a6.size + 1 ≤ 9223372036854775807 := by omega
      go_wp2_with fail
      have HS8 := Aside0.mk (HS7.out.field (Nat.ne_of_lt hsz) (Nat.le_of_lt hsz) 6 (.string (a6 ++ (⟨#[120]⟩ : ByteArray))) (Kd.C_below HR.out (below_set HS7.out.below (Nat.le_of_lt hsz))))
      clear HS7 ha0 ha1 ha2 ha3 ha4 ha5 ha6 ha7 ha8 ha9 hb0 hb1 hb2 hb3 hb4 hb5 hb6 hb7 hb8 hb9 hg0 hg1 hg3 hg4 hg5 hg6 hg7 hg8 hg9
      have hdx : (decide (l2 = l2) && sameRest a0 a1 a3 a4 a5 a6 a7 a8 a9 a0 a1 a3 a4 a5 (a6 ++ (⟨#[120]⟩ : ByteArray)) a7 a8 a9) = false := by simp [sameRest, more_ne]
      refine (same_calls _ _ _ _ _ _ _ _ _ _ _ _ _ _ _ _ _ _ _ _ _ _ _ _ _ HS8.out.rd HC.out (Kd.R_reads' HS8.out.row).2.2 HCo.out HL.out).mono ?_
      rintro e w8 ⟨he, hw8⟩
      rw [hdx] at he
      subst he
      have HS9 := Aside0.mk (HS8.out.step hw8)
      clear hw8 HS8 hdx
      obtain ⟨ha0, ha1, ha2, ha3, ha4, ha5, ha6, ha7, ha8, ha9⟩ := cells10 HS9.out.ha
      obtain ⟨hb0, hb1, hb2, hb3, hb4, hb5, hb6, hb7, hb8, hb9⟩ := cells10 HS9.out.hb
      go_wp2_with fail
      have hdy : (decide (l2 = l2) && sameRest a0 a1 a3 a4 a5 (a6 ++ (⟨#[120]⟩ : ByteArray)) a7 a8 a9 a0 a1 a3 a4 a5 a6 a7 a8 a9) = false := by simp [sameRest, more_ne']
      refine (same_calls _ _ _ _ _ _ _ _ _ _ _ _ _ _ _ _ _ _ _ _ _ _ _ _ _ (Kd.R_reads' HS9.out.row).2.2 HCo.out HS9.out.rd HC.out HL.out).mono ?_
      rintro e w10 ⟨he, hw10⟩
      rw [hdy] at he
      subst he
      have HB10 := Aside0.mk (HS9.out.step hw10).below
      clear hw10 HS9 hdy ha0 ha1 ha2 ha3 ha4 ha5 ha6 ha7 ha8 ha9 hb0 hb1 hb2 hb3 hb4 hb5 hb6 hb7 hb8 hb9
      go_wp2
      go_ret
      exact ⟨rfl, HB10.out⟩
    · clear HSW
      go_wp2_with fail
      have HS8 := Aside0.mk (HS7.out.field (Nat.ne_of_lt hsz) (Nat.le_of_lt hsz) 7 (.bool (!a7)) (Kd.C_below HR.out (below_set HS7.out.below (Nat.le_of_lt hsz))))
      clear HS7 ha0 ha1 ha2 ha3 ha4 ha5 ha6 ha7 ha8 ha9 hb0 hb1 hb2 hb3 hb4 hb5 hb6 hb7 hb8 hb9 hg0 hg1 hg3 hg4 hg5 hg6 hg7 hg8 hg9
      have hdx : (decide (l2 = l2) && sameRest a0 a1 a3 a4 a5 a6 a7 a8 a9 a0 a1 a3 a4 a5 a6 (!a7) a8 a9) = false := by simp [sameRest]
      refine (same_calls _ _ _ _ _ _ _ _ _ _ _ _ _ _ _ _ _ _ _ _ _ _ _ _ _ HS8.out.rd HC.out (Kd.R_reads' HS8.out.row).2.2 HCo.out HL.out).mono ?_
      rintro e w8 ⟨he, hw8⟩
      rw [hdx] at he
      subst he
      have HS9 := Aside0.mk (HS8.out.step hw8)
      clear hw8 HS8 hdx
      obtain ⟨ha0, ha1, ha2, ha3, ha4, ha5, ha6, ha7, ha8, ha9⟩ := cells10 HS9.out.ha
      obtain ⟨hb0, hb1, hb2, hb3, hb4, hb5, hb6, hb7, hb8, hb9⟩ := cells10 HS9.out.hb
      go_wp2_with fail
      have hdy : (decide (l2 = l2) && sameRest a0 a1 a3 a4 a5 a6 (!a7) a8 a9 a0 a1 a3 a4 a5 a6 a7 a8 a9) = false := by simp [sameRest]
      refine (same_calls _ _ _ _ _ _ _ _ _ _ _ _ _ _ _ _ _ _ _ _ _ _ _ _ _ (Kd.R_reads' HS9.out.row).2.2 HCo.out HS9.out.rd HC.out HL.out).mono ?_
      rintro e w10 ⟨he, hw10⟩
      rw [hdy] at he
      subst he
      have HB10 := Aside0.mk (HS9.out.step hw10).below
      clear hw10 HS9 hdy ha0 ha1 ha2 ha3 ha4 ha5 ha6 ha7 ha8 ha9 hb0 hb1 hb2 hb3 hb4 hb5 hb6 hb7 hb8 hb9
      go_wp2
      go_ret
      exact ⟨rfl, HB10.out⟩
    · clear HSW
      go_wp2_with fail
      have HS8 := Aside0.mk (HS7.out.field (Nat.ne_of_lt hsz) (Nat.le_of_lt hsz) 8 (.bool (!a8)) (Kd.C_below HR.out (below_set HS7.out.below (Nat.le_of_lt hsz))))
      clear HS7 ha0 ha1 ha2 ha3 ha4 ha5 ha6 ha7 ha8 ha9 hb0 hb1 hb2 hb3 hb4 hb5 hb6 hb7 hb8 hb9 hg0 hg1 hg3 hg4 hg5 hg6 hg7 hg8 hg9
      have hdx : (decide (l2 = l2) && sameRest a0 a1 a3 a4 a5 a6 a7 a8 a9 a0 a1 a3 a4 a5 a6 a7 (!a8) a9) = false := by simp [sameRest]
      refine (same_calls _ _ _ _ _ _ _ _ _ _ _ _ _ _ _ _ _ _ _ _ _ _ _ _ _ HS8.out.rd HC.out (Kd.R_reads' HS8.out.row).2.2 HCo.out HL.out).mono ?_
      rintro e w8 ⟨he, hw8⟩
      rw [hdx] at he
      subst he
      have HS9 := Aside0.mk (HS8.out.step hw8)
      clear hw8 HS8 hdx
      obtain ⟨ha0, ha1, ha2, ha3, ha4, ha5, ha6, ha7, ha8, ha9⟩ := cells10 HS9.out.ha
      obtain ⟨hb0, hb1, hb2, hb3, hb4, hb5, hb6, hb7, hb8, hb9⟩ := cells10 HS9.out.hb
      go_wp2_with fail
      have hdy : (decide (l2 = l2) && sameRest a0 a1 a3 a4 a5 a6 a7 (!a8) a9 a0 a1 a3 a4 a5 a6 a7 a8 a9) = false := by simp [sameRest]
      refine (same_calls _ _ _ _ _ _ _ _ _ _ _ _ _ _ _ _ _ _ _ _ _ _ _ _ _ (Kd.R_reads' HS9.out.row).2.2 HCo.out HS9.out.rd HC.out HL.out).mono ?_
      rintro e w10 ⟨he, hw10⟩
      rw [hdy] at he
      subst he
      have HB10 := Aside0.mk (HS9.out.step hw10).below
      clear hw10 HS9 hdy ha0 ha1 ha2 ha3 ha4 ha5 ha6 ha7 ha8 ha9 hb0 hb1 hb2 hb3 hb4 hb5 hb6 hb7 hb8 hb9
      go_wp2
      go_ret
      exact ⟨rfl, HB10.out⟩
    · clear HSW
      go_wp2_with fail
      have HS8 := Aside0.mk (HS7.out.field (Nat.ne_of_lt hsz) (Nat.le_of_lt hsz) 9 (.bool (!a9)) (Kd.C_below HR.out (below_set HS7.out.below (Nat.le_of_lt hsz))))
      clear HS7 ha0 ha1 ha2 ha3 ha4 ha5 ha6 ha7 ha8 ha9 hb0 hb1 hb2 hb3 hb4 hb5 hb6 hb7 hb8 hb9 hg0 hg1 hg3 hg4 hg5 hg6 hg7 hg8 hg9
      have hdx : (decide (l2 = l2) && sameRest a0 a1 a3 a4 a5 a6 a7 a8 a9 a0 a1 a3 a4 a5 a6 a7 a8 (!a9)) = false := by simp [sameRest]
      refine (same_calls _ _ _ _ _ _ _ _ _ _ _ _ _ _ _ _ _ _ _ _ _ _ _ _ _ HS8.out.rd HC.out (Kd.R_reads' HS8.out.row).2.2 HCo.out HL.out).mono ?_
      rintro e w8 ⟨he, hw8⟩
      rw [hdx] at he
      subst he
      have HS9 := Aside0.mk (HS8.out.step hw8)
      clear hw8 HS8 hdx
      obtain ⟨ha0, ha1, ha2, ha3, ha4, ha5, ha6, ha7, ha8, ha9⟩ := cells10 HS9.out.ha
      obtain ⟨hb0, hb1, hb2, hb3, hb4, hb5, hb6, hb7, hb8, hb9⟩ := cells10 HS9.out.hb
      go_wp2_with fail
      have hdy : (decide (l2 = l2) && sameRest a0 a1 a3 a4 a5 a6 a7 a8 (!a9) a0 a1 a3 a4 a5 a6 a7 a8 a9) = false := by simp [sameRest]
      refine (same_calls _ _ _ _ _ _ _ _ _ _ _ _ _ _ _ _ _ _ _ _ _ _ _ _ _ (Kd.R_reads' HS9.out.row).2.2 HCo.out HS9.out.rd HC.out HL.out).mono ?_
      rintro e w10 ⟨he, hw10⟩
      rw [hdy] at he
      subst he
      have HB10 := Aside0.mk (HS9.out.step hw10).below
      clear hw10 HS9 hdy ha0 ha1 ha2 ha3 ha4 ha5 ha6 ha7 ha8 ha9 hb0 hb1 hb2 hb3 hb4 hb5 hb6 hb7 hb8 hb9
      go_wp2
      go_ret
      exact ⟨rfl, HB10.out⟩
    · clear HSW
      go_wp2_with (first
        | ((with_reducible refine gate_builtin (b := .append) (xs := #[.tmp 101, .tmp 103]) rfl ?_); at_builtin; refine Kd.R_append k28 (w0 := w7) (w1.heap.size + 1) rfl (.tmp 101) (.tmp 103) 22 28 (.agg #[(.string ⟨#[]⟩), (.string ⟨#[]⟩)]) 32 rfl Try.underlying22 info28 rfl (by decide) (by omega) (.slice Ao l2.length co) l2 (⟨⟨#[120]⟩, ⟨#[]⟩⟩ : S28) [.string ⟨#[120]⟩, .string ⟨#[]⟩] (fun _ => True) (fun _ => False) rfl rfl ?aP (fun _ hk => hk.elim) ?aF ?aO ?aB ?aS ?aL ?_; (case aP => exact k28_mkM _ _ _ (⟨⟨#[120]⟩, ⟨#[]⟩⟩ : S28)); (case aF => exact (fun _ _ => trivial)); (case aO => exact HS7.out.row); (case aB => exact Below.refl _ _); (case aS => exact blk_lt HS7.out.hb); (case aL => have := HL.out; omega); intro v8 w8 ho hb _ _; have HO8 := Aside0.mk ho; have HB8 := Aside0.mk hb; clear ho hb; have HA8 := Aside0.mk ((HB8.out.block w.heap.size (by omega)).trans HS7.out.ha); have HBk8 := Aside0.mk ((HB8.out.block w1.heap.size (by omega)).trans HS7.out.hb); have hcb := (cells10 HBk8.out).2.2.1; have hfb := blk_frozen HBk8.out 2; obtain ⟨A8, c8, eo⟩ := Kd.R_slice HO8.out; rw [show (l2 ++ [(⟨⟨#[120]⟩, ⟨#[]⟩⟩ : S28)]).length = l2.length + 1 from by simp] at eo; subst eo)
        | ((with_reducible refine gate_store (t := 22) (p := 105) rfl ?_); refine store_event (t := 22) (p := 105) (v := .tmp 104) (w1 := (w8.setCell ⟨w1.heap.size, 2, none⟩ (.slice A8 (l2.length + 1) c8))) ?hg ?ho ?hn ?hr ?_; (case ho => rfl); (case hg => rfl); (case hn => rfl); (case hr => first | (go_simp; done) | (go_simp; rfl)); intro w9 hw; have HW9 := Aside0.mk hw; clear hw; have HB9 := Aside0.mk (show Below w.heap.size w w9 from by rw [HW9.out]; exact below_set (HS7.out.below.trans (HB8.out.mono (by omega))) (Nat.le_of_lt hsz)); have HS8 := Aside0.mk (St.mk (w := w) (show w9.heap[w.heap.size]? = some (.cells #[.int .i64 a0, .string a1, (Value.slice A2 l2.length c2), .bool a3, .string a4, .string a5, .string a6, .bool a7, .bool a8, .bool a9] 24 (0, 0)) from by rw [HW9.out, Below.heap_setCell w8 ⟨w1.heap.size, 2, none⟩ _ w.heap.size (Nat.ne_of_lt hsz)]; exact HA8.out) (show w9.heap[w1.heap.size]? = some (.cells #[.int .i64 a0, .string a1, (Value.slice A8 (l2.length + 1) c8), .bool a3, .string a4, .string a5, .string a6, .bool a7, .bool a8, .bool a9] 24 (0, 0)) from by rw [HW9.out]; exact blk_set HBk8.out 2 _) (show Kd.R k28 28 w9 (w1.heap.size + 1) (fun _ => True) (.slice A8 (l2.length + 1) c8) (l2 ++ [(⟨⟨#[120]⟩, ⟨#[]⟩⟩ : S28)]) from by rw [HW9.out]; exact Kd.R_set HO8.out HBk8.out (by decide) 2 _) (Kd.C_below HR.out HB9.out) HB9.out); clear HO8 HB8 HA8 HBk8 HW9 hcb hfb HB9 HS7 ha0 ha1 ha2 ha3 ha4 ha5 ha6 ha7 ha8 ha9 hb0 hb1 hb2 hb3 hb4 hb5 hb6 hb7 hb8 hb9 hg0 hg1 hg3 hg4 hg5 hg6 hg7 hg8 hg9; obtain ⟨ha0, ha1, ha2, ha3, ha4, ha5, ha6, ha7, ha8, ha9⟩ := cells10 HS8.out.ha; obtain ⟨hb0, hb1, hb2, hb3, hb4, hb5, hb6, hb7, hb8, hb9⟩ := cells10 HS8.out.hb))
      have HCx := Aside0.mk (show (l2 ++ [(⟨⟨#[120]⟩, ⟨#[]⟩⟩ : S28)]).length ≤ c8 by have := (Kd.R_reads' HS8.out.row).2.1; simp; omega)
      clear ha0 ha1 ha2 ha3 ha4 ha5 ha6 ha7 ha8 ha9 hb0 hb1 hb2 hb3 hb4 hb5 hb6 hb7 hb8 hb9
      have hdx : (decide (l2 = (l2 ++ [(⟨⟨#[120]⟩, ⟨#[]⟩⟩ : S28)])) && sameRest a0 a1 a3 a4 a5 a6 a7 a8 a9 a0 a1 a3 a4 a5 a6 a7 a8 a9) = false := by rw [decide_eq_false snoc_ne]; rfl
      refine (same_callsN _ _ _ _ _ _ _ _ _ _ _ _ _ _ _ _ _ _ _ _ _ _ _ _ _ _ _ rfl (by simp) HS8.out.rd HC.out (RN (by simp) HS8.out.row) HCx.out HL.out).mono ?_
      rintro e w8 ⟨he, hw8⟩
      rw [hdx] at he
      subst he
      have HS9 := Aside0.mk (HS8.out.step hw8)
      clear hw8 HS8 hdx
      obtain ⟨ha0, ha1, ha2, ha3, ha4, ha5, ha6, ha7, ha8, ha9⟩ := cells10 HS9.out.ha
      obtain ⟨hb0, hb1, hb2, hb3, hb4, hb5, hb6, hb7, hb8, hb9⟩ := cells10 HS9.out.hb
      go_wp2_with fail
      have hdy : (decide ((l2 ++ [(⟨⟨#[120]⟩, ⟨#[]⟩⟩ : S28)]) = l2) && sameRest a0 a1 a3 a4 a5 a6 a7 a8 a9 a0 a1 a3 a4 a5 a6 a7 a8 a9) = false := by rw [decide_eq_false snoc_ne']; rfl
      refine (same_callsN _ _ _ _ _ _ _ _ _ _ _ _ _ _ _ _ _ _ _ _ _ _ _ _ _ _ _ (by simp) rfl (RN (by simp) HS9.out.row) HCx.out HS9.out.rd HC.out (by have := HL9.out; exact this)).mono ?_
      rintro e w10 ⟨he, hw10⟩
      rw [hdy] at he
      subst he
      have HB10 := Aside0.mk (HS9.out.step hw10).below
      clear hw10 HS9 hdy ha0 ha1 ha2 ha3 ha4 ha5 ha6 ha7 ha8 ha9 hb0 hb1 hb2 hb3 hb4 hb5 hb6 hb7 hb8 hb9
      go_wp2
      go_ret
      exact ⟨rfl, HB10.out⟩
    · clear HSW
      by_cases hl0 : l2.length = 0
      · have hl0' : ((l2.length : Int) == 0) = true := by simpa using hl0
        clear hl0
        go_wp2
        go_ret
        exact ⟨rfl, HS7.out.below⟩
      · have hl0' : ((l2.length : Int) == 0) = false := by simpa using hl0
        have hpos : (0 : Int) < (l2.length : Int) := by omega
        obtain ⟨gr, cap, he, hgb, hglt, _⟩ := Kd.R_form HS7.out.row (by omega)
        injection he with he1 _ he2
        subst he1; subst he2
        have hposN : 0 < l2.length := by omega
        obtain ⟨ce, hcl, hM, hcc, hfr⟩ := Kd.R_elem HS7.out.row z28 0 (by omega) hpos
        have hm : l2.getD (0 : Int).toNat z28 ∈ l2 := by
          rw [show (0 : Int).toNat = 0 from rfl, List.getD_eq_getElem?_getD, List.getElem?_eq_getElem hposN]
          exact List.getElem_mem hposN
        have hme : l2.getD 0 z28 = l2.getD (0 : Int).toNat z28 := rfl
        generalize l2.getD (0 : Int).toNat z28 = y0 at hM hm hme
        obtain rfl := k28_openM hM
        have hr1 : w7.cell? ⟨gr, 1, none⟩ = some (.string y0.f1) := hcc 1 _ rfl
        have hf1 : w7.frozen? ⟨gr, 1, none⟩ = false := hfr 1
        have hz : y0.f1.size + 1 ≤ 9223372036854775807 := by
          have := HZ.out _ hm
          omega
        have HNE := Aside0.mk (show ¬ l2 = l2.set 0 ⟨y0.f0, y0.f1 ++ (⟨#[120]⟩ : ByteArray)⟩ from by
          intro e
          have e2 := congrArg (fun l => l.getD 0 z28) e
          simp only [hme] at e2
          rw [List.getD_eq_getElem?_getD, List.getElem?_set_self hposN, Option.getD_some] at e2
          have e3 := congrArg (fun q : S28 => q.f1.size) e2
          simp only [ByteArray.size_append] at e3
          have h1 : (⟨#[120]⟩ : ByteArray).size = 1 := rfl
          omega)
        obtain ⟨hR8, hg8⟩ := Kd.R_seg HS7.out.row 0 (by omega) hpos (seg := [.string (y0.f1 ++ (⟨#[120]⟩ : ByteArray))]) (j := 1) hcl hcc (show 2 ≤ 2 from Nat.le_refl 2) (x' := ⟨y0.f0, y0.f1 ++ (⟨#[120]⟩ : ByteArray)⟩) (k28_mkM _ _ _ (⟨y0.f0, y0.f1 ++ (⟨#[120]⟩ : ByteArray)⟩ : S28)) (fun _ hk => hk)
        have HB8 := Aside0.mk (show Below w.heap.size w (w7.setCell ⟨gr, 1, none⟩ (.string (y0.f1 ++ (⟨#[120]⟩ : ByteArray)))) from below_set HS7.out.below (by omega))
        have HS8 := Aside0.mk (show St w w.heap.size w1.heap.size (w1.heap.size + 1) #[.int .i64 a0, .string a1, (Value.slice A2 l2.length c2), .bool a3, .string a4, .string a5, .string a6, .bool a7, .bool a8, .bool a9] #[.int .i64 a0, .string a1, (Value.slice (some ⟨gr, 0, none⟩) l2.length co), .bool a3, .string a4, .string a5, .string a6, .bool a7, .bool a8, .bool a9] (.slice (some ⟨gr, 0, none⟩) l2.length co) (l2.set 0 ⟨y0.f0, y0.f1 ++ (⟨#[120]⟩ : ByteArray)⟩) A2 l2 (w7.setCell ⟨gr, 1, none⟩ (.string (y0.f1 ++ (⟨#[120]⟩ : ByteArray)))) from
          ⟨(Below.heap_setCell w7 ⟨gr, 1, none⟩ (.string (y0.f1 ++ (⟨#[120]⟩ : ByteArray))) w.heap.size (show w.heap.size ≠ gr by omega)).trans HS7.out.ha, (Below.heap_setCell w7 ⟨gr, 1, none⟩ (.string (y0.f1 ++ (⟨#[120]⟩ : ByteArray))) w1.heap.size (show w1.heap.size ≠ gr by omega)).trans HS7.out.hb, hR8, Kd.C_below HR.out HB8.out, HB8.out⟩)
        have hn1 : gr ≠ w.heap.size := by omega
        have hn2 : gr ≠ w1.heap.size := by omega
        clear hcl hM hcc hfr hR8 hg8 hl0 hm hme
        go_wp2
        go_region
        go_wp2_with fail
        replace HS8 := Aside0.mk (HS8.out.step (below_drew1 (Below.refl _ _)))
        have HCx := Aside0.mk (show (l2.set 0 ⟨y0.f0, y0.f1 ++ (⟨#[120]⟩ : ByteArray)⟩).length ≤ co by rw [List.length_set]; exact HCo.out)
        clear HB8 HS7 ha0 ha1 ha2 ha3 ha4 ha5 ha6 ha7 ha8 ha9 hb0 hb1 hb2 hb3 hb4 hb5 hb6 hb7 hb8 hb9 hg0 hg1 hg3 hg4 hg5 hg6 hg7 hg8 hg9
        have hdx : (decide (l2 = l2.set 0 ⟨y0.f0, y0.f1 ++ (⟨#[120]⟩ : ByteArray)⟩) && sameRest a0 a1 a3 a4 a5 a6 a7 a8 a9 a0 a1 a3 a4 a5 a6 a7 a8 a9) = false := by rw [decide_eq_false HNE.out]; rfl
        refine (same_callsN _ _ _ _ _ _ _ _ _ _ _ _ _ _ _ _ _ _ _ _ _ _ _ _ _ _ _ rfl (by simp) HS8.out.rd HC.out (RN (by simp) HS8.out.row) HCx.out HL.out).mono ?_
        rintro e w8 ⟨he, hw8⟩
        rw [hdx] at he
        subst he
        have HS9 := Aside0.mk (HS8.out.step hw8)
        clear hw8 HS8 hdx
        obtain ⟨ha0, ha1, ha2, ha3, ha4, ha5, ha6, ha7, ha8, ha9⟩ := cells10 HS9.out.ha
        obtain ⟨hb0, hb1, hb2, hb3, hb4, hb5, hb6, hb7, hb8, hb9⟩ := cells10 HS9.out.hb
        go_wp2_with fail
        have hdy : (decide (l2.set 0 ⟨y0.f0, y0.f1 ++ (⟨#[120]⟩ : ByteArray)⟩ = l2) && sameRest a0 a1 a3 a4 a5 a6 a7 a8 a9 a0 a1 a3 a4 a5 a6 a7 a8 a9) = false := by rw [decide_eq_false (fun e => HNE.out e.symm)]; rfl
        refine (same_callsN _ _ _ _ _ _ _ _ _ _ _ _ _ _ _ _ _ _ _ _ _ _ _ _ _ _ _ (by simp) rfl (RN (by simp) HS9.out.row) HCx.out HS9.out.rd HC.out (by rw [List.length_set]; exact HL.out)).mono ?_
        rintro e w10 ⟨he, hw10⟩
        rw [hdy] at he
        subst he
        have HB10 := Aside0.mk (HS9.out.step hw10).below
        clear hw10 HS9 hdy ha0 ha1 ha2 ha3 ha4 ha5 ha6 ha7 ha8 ha9 hb0 hb1 hb2 hb3 hb4 hb5 hb6 hb7 hb8 hb9
        go_wp2
        go_ret
        exact ⟨rfl, HB10.out⟩
end Go.Proofs.Ytccadgnbomgpcaa.Tk
