/-
  slices.DeleteFunc at []token.Attr with a closure, and token.Without: for every slice of attributes that reads as a list of less than 2^42 elements, and every name.
-/
import Derived.Test.YtccadgnbomgpcaaTkGet
import Derived.Test.YtccadgnbomgpcaaTkClone
namespace Go.Proofs.Ytccadgnbomgpcaa.Tk
open Go.RowKit Go.Shelf Go.Proofs.YtccadgnbomgpcaaW.PrintWords Go.Proofs.YtccadgnbomgpcaaW.PrintLast Go.Proofs.YtccadgnbomgpcaaW.PrintMore

/-- What lies behind a row's first i elements is overwritten: the first i stay. -/
theorem R_clear {α : Type} {d : Kd α} {e g n cap base : Nat} {ok : Nat → Prop} {W : World} {xs : List α} {i : Nat} (vs : List Value)
    (h : d.R e W base ok (.slice (some ⟨g, 0, none⟩) n cap) xs) (hi : i ≤ xs.length) (hv : i * d.sz + vs.length ≤ n * d.sz) :
    d.R e (W.setCells g (i * d.sz) vs) base ok (.slice (some ⟨g, 0, none⟩) i cap) (xs.take i) ∧ W.grownBy (W.setCells g (i * d.sz) vs) (some g) := by
  have hn : n = xs.length := (Kd.R_reads' h).1
  obtain ⟨h0, inner, ho, hr⟩ := Kd.R_take h hi
  obtain ⟨ho1, ho2⟩ := ho
  obtain ⟨_, inner2, ⟨_, ho3⟩, _⟩ := h
  have hfar : ∀ k, k ≠ g → (W.setCells g (i * d.sz) vs).heap[k]? = W.heap[k]? := fun k hk => setCells_far vs _ k hk
  obtain ⟨s1, s2, s3, s4⟩ := setCells_same g vs (i * d.sz) W
  refine ⟨⟨h0, inner, ⟨ho1, ?_⟩, hr.imp_ (fun _ _ hp => d.M_move (fun k hk => hfar k (fun e => hk.2 (by rw [e]; rfl))) hp)⟩, ⟨s1, s2, s3, by rw [s4]; exact Nat.le_refl _, fun k _ hk => hfar k (fun he => hk (by rw [he]))⟩⟩
  rcases ho3 with ⟨hv', _⟩ | ⟨g', cap', cur, hv', hb, hh, hnc, hcm, hcs, ht⟩
  · cases hv'
  injection hv' with ha _ hc
  injection ha with ha
  injection ha with hg
  subst hg; subst hc
  rcases ho2 with ⟨hv2, _⟩ | ⟨g2, cap2, cur2, hv2, hb2, hh2, hnc2, hcm2, hcs2, ht2⟩
  · cases hv2
  injection hv2 with ha2 _ hc2
  injection ha2 with ha2
  injection ha2 with hg2
  subst hg2; subst hc2
  rw [hh] at hh2
  injection hh2 with hh2
  injection hh2 with hh2
  subst hh2
  have hfit : i * d.sz + vs.length ≤ cur.size := by
    have h1 : xs.length * d.sz ≤ cap * d.sz := Nat.mul_le_mul_right _ hnc
    rw [hn] at hv
    omega
  obtain ⟨cur', h3, h4, h5⟩ := setCells_row vs (i * d.sz) W cur hh hfit
  have hil : (xs.take i).length = i := by rw [List.length_take]; omega
  refine .inr ⟨g, cap, cur', by rw [hil], hb, h3, hnc2, hcm, by rw [h4, hcs], ?_⟩
  rw [hil] at ht2 ⊢
  rw [h5, List.append_assoc, List.take_append_of_le_length (by rw [List.length_take, Array.length_toList]; omega), List.take_take, Nat.min_self]
  exact ht2

/-! ### the plain law of the loop -/
theorem idx_none {p : S28 → Bool} : ∀ (l : List S28) (k : Nat), idxOf p l k = -1 → l.filter (fun a => !p a) = l
  | [], _, _ => rfl
  | x :: l, k, h => by
    unfold idxOf at h
    by_cases hx : p x = true
    · rw [if_pos hx] at h; omega
    · rw [if_neg hx] at h
      have hf : p x = false := by simpa using hx
      simp [hf, idx_none l (k + 1) h]
theorem idx_some {p : S28 → Bool} : ∀ (l : List S28) (k j : Nat), idxOf p l k = ((k + j : Nat) : Int) → j < l.length ∧ (l.take j).filter (fun a => !p a) = l.take j ∧ (l.take (j + 1)).filter (fun a => !p a) = l.take j
  | [], k, j, h => by simp [idxOf] at h; omega
  | x :: l, k, j, h => by
    unfold idxOf at h
    by_cases hx : p x = true
    · rw [if_pos hx] at h
      obtain rfl : j = 0 := by omega
      simp [hx]
    · rw [if_neg hx] at h
      have hf : p x = false := by simpa using hx
      rcases j with _ | j
      · rcases idx_lo p l (k + 1) with h1 | h1 <;> omega
      · obtain ⟨h1, h2, h3⟩ := idx_some l (k + 1) j (by rw [h]; omega)
        refine ⟨by simpa using h1, ?_, ?_⟩
        · simp only [List.take_succ_cons, List.filter_cons, hf, Bool.not_false, if_true]; rw [h2]
        · simp only [List.take_succ_cons, List.filter_cons, hf, Bool.not_false, if_true]
          rw [h3]

/-- Between two rounds: the first i are what is kept of the first j; from j on all is as it was. -/
structure Kp (p : S28 → Bool) (l : List S28) (i j : Nat) (xs : List S28) : Prop where
  len : xs.length = l.length
  lt : i < j
  le : j ≤ l.length
  done : xs.take i = (l.take j).filter (fun a => !p a)
  rest : xs.drop j = l.drop j
theorem Kp.at_ {p : S28 → Bool} {l xs : List S28} {i j : Nat} (h : Kp p l i j xs) : rd_T28 xs (j : Int) = rd_T28 l (j : Int) := by
  have h1 : xs[j]? = l[j]? := by
    have h2 : (xs.drop j)[0]? = (l.drop j)[0]? := by rw [h.rest]
    simpa using h2
  simp only [rd_T28, Int.toNat_natCast, List.getD_eq_getElem?_getD, h1]
theorem take_succ_rd {l : List S28} {j : Nat} (hj : j < l.length) : l.take (j + 1) = l.take j ++ [rd_T28 l (j : Int)] := by
  rw [List.take_succ_eq_append_getElem hj]
  simp [rd_T28, hj]
theorem Kp.skip {p : S28 → Bool} {l xs : List S28} {i j : Nat} (h : Kp p l i j xs) (hj : j < l.length) (hp : p (rd_T28 l (j : Int)) = true) : Kp p l i (j + 1) xs :=
  ⟨h.len, by have := h.lt; omega, hj, by rw [h.done, take_succ_rd hj, List.filter_append]; simp [hp], by rw [← List.drop_drop, h.rest, List.drop_drop]⟩
theorem Kp.keep {p : S28 → Bool} {l xs : List S28} {i j : Nat} (h : Kp p l i j xs) (hj : j < l.length) (hp : p (rd_T28 l (j : Int)) = false) : Kp p l (i + 1) (j + 1) (xs.set i (rd_T28 l (j : Int))) := by
  have hlt := h.lt
  refine ⟨by rw [List.length_set]; exact h.len, by omega, hj, ?_, ?_⟩
  · rw [take_succ_rd hj, List.filter_append, ← h.done, List.take_set, List.take_succ_eq_append_getElem (by rw [h.len]; omega)]
    rw [List.set_append_right _ _ (by rw [List.length_take, h.len]; omega)]
    have hz : i - (List.take i xs).length = 0 := by rw [List.length_take, h.len]; omega
    rw [hz]
    simp [hp]
  · rw [List.drop_set_of_lt (by omega), ← List.drop_drop, h.rest, List.drop_drop]

/-! ### the walk -/
theorem zero28 (w : World) : (zeroValue 28).run Try.prog w = .ok (.agg #[.string ⟨#[]⟩, .string ⟨#[]⟩]) w := by kernel_rfl

theorem size28 : (Try.prog.info? 28).map (·.size) = some 2 := by kernel_rfl

/-- 'clear(s)' on attributes: zero values behind. -/
theorem run_clear28 (w : World) (ty : TypeId) (g o n c : Nat) (hn : 0 < n)
    (hc : ∀ j, j < n * 2 → (w.cell? ⟨g, o + j, none⟩).isSome = true) (hf : ∀ j, j < n * 2 → w.frozen? ⟨g, o + j, none⟩ = false) :
    (Builtin.clear_ #[22] ty #[.slice (some ⟨g, o, none⟩) n c]).run Try.prog w = .ok (.tuple #[]) (w.setCells g o (Builtin.zeroCells #[.string ⟨#[]⟩, .string ⟨#[]⟩] n).toList) := by
  have hlen : (Builtin.zeroCells #[.string ⟨#[]⟩, .string ⟨#[]⟩] n).toList.length = n * 2 := by simp [Builtin.zeroCells]
  have hst := run_storeCells_cells (P := Try.prog) g o (Builtin.zeroCells #[.string ⟨#[]⟩, .string ⟨#[]⟩] n).toList 0 w (by rw [hlen]; simpa using hc) (by rw [hlen]; simpa using hf) (by
    intro v hv
    simp only [Builtin.zeroCells, Array.toList_map, List.mem_map] at hv
    obtain ⟨i, _, rfl⟩ := hv
    show Value.oneCell' (#[Value.string ⟨#[]⟩, Value.string ⟨#[]⟩][i % 2]!) = true
    rcases Nat.mod_two_eq_zero_or_one i with h | h <;> simp [h, Value.oneCell'])
  simp only [Nat.add_zero] at hst
  obtain ⟨m, rfl⟩ : ∃ m, n = m + 1 := ⟨n - 1, by omega⟩
  simp [Builtin.clear_, run_underlying Try.underlying22, Value.cells, hst]

theorem Tells.later {g : Nat} {lb : Array Value} {p : S28 → Bool} {w w1 : World} (h : Tells g lb p w) (hb : Below w.heap.size w w1) : Tells g lb p w1 :=
  fun x W hW => h x W (hb.trans (hW.mono hb.size))

set_option maxHeartbeats 8000000 in
set_option maxRecDepth 100000 in
theorem deleteFunc_calls (g : Nat) (lb : Array Value) (eg : ∀ args w, (callFunc g args).run Try.prog w = .ok (.enter g args) w) (p : S28 → Bool) (v : Value) (l : List S28) (w1 w : World)
    (hB : Below w1.heap.size w1 w) (hR : Kd.R k28 28 w w1.heap.size (fun _ => True) v l) (hl : l.length < 4398046511104) (hcl : Tells g lb p w1) :
    Calls Try.prog 51 #[v, .func (.func g) #[] lb] w fun e w' => ∃ v0 : Value, e = .returned v0 ∧ Kd.R k28 28 w' w1.heap.size (fun _ => True) v0 (l.filter (fun a => !p a)) ∧ Below w1.heap.size w1 w' := by
  obtain ⟨A, c, rfl⟩ := Kd.R_slice hR
  have hu28 := Try.underlying28
  have hcon := indexFunc_calls g lb eg p A c l w (Kd.R_reads' hR).2.2 hl (hcl.later hB)
  have HCL := Aside0.mk hcl
  have HL : (l.length : Int) < 4398046511104 := by omega
  by_cases hm : idxOf p l 0 = -1
  · rw [hm] at hcon
    have hf := Aside0.mk (idx_none l 0 hm)
    have HC := Aside0.mk hcon
    have HB := Aside0.mk hB
    have HR := Aside0.mk hR
    clear hcon hm hB hR hcl hl
    go_enter Try.func51, Try.ntmps51
    go_wp2_with (go_at_call 48; refine HC.out.mono ?_; rintro e w' ⟨rfl, hb'⟩)
    go_ret
    exact ⟨_, rfl, by rw [hf.out]; exact Kd.R_below HR.out hb', HB.out.trans (hb'.mono HB.out.size)⟩
  · obtain ⟨i0, hi0⟩ : ∃ i0 : Nat, idxOf p l 0 = ((0 + i0 : Nat) : Int) := by
      rcases idx_lo p l 0 with h | h
      · exact absurd h hm
      · exact ⟨(idxOf p l 0).toNat, by omega⟩
    obtain ⟨q1, q2, q3⟩ := idx_some l 0 i0 hi0
    rw [hi0, Nat.zero_add] at hcon
    have hne1 : ((i0 : Int) == -1) = false := beq_eq_false_iff_ne.2 (by omega)
    obtain ⟨gr, cap, he, hgb, hglt, hgc⟩ := Kd.R_form hR (by omega)
    injection he with he1 _ he2
    subst he1; subst he2
    have K0 := Aside0.mk (show Kp p l i0 (i0 + 1) l from ⟨rfl, by omega, q1, by rw [q3], rfl⟩)
    have HC := Aside0.mk hcon
    have HB0 := Aside0.mk hB
    have HR0 := Aside0.mk hR
    have GB := Aside0.mk hgb
    have hi0l : (i0 : Int) < (l.length : Int) := by omega
    clear hcon hm hB hR hcl hl hi0 q1 q2 q3 hgc hglt hgb
    go_enter Try.func51, Try.ntmps51
    go_wp2_with (go_at_call 48; refine HC.out.mono ?_; rintro e w' ⟨rfl, hb'⟩; have HB := Aside0.mk (HB0.out.trans (hb'.mono HB0.out.size)); have HR := Aside0.mk (Kd.R_below HR0.out hb'); clear hb' HB0 HR0)
    go_loopg [5, 6] l.length (fun gg s5 s6 wr => ∃ (i j : Nat) (xs : List S28), s5 = .int .i64 i ∧ s6 = .int .i64 j ∧ l.length - j ≤ gg ∧ Aside0 (Kp p l i j xs) ∧ Aside0 (Kd.R k28 28 wr w1.heap.size (fun _ => True) (.slice (some ⟨gr, 0, none⟩) l.length c) xs) ∧ Aside0 (Below w1.heap.size w1 wr))
    case atStart => exact ⟨i0, i0 + 1, l, rfl, by go_num, by omega, K0, HR, HB⟩
    case round =>
      clear K0 HR HB
      obtain ⟨i, j, xs, rfl, rfl, hgg, K, HR, HB⟩ := hrel
      have hij : (i : Int) < (j : Int) := by have := K.out.lt; omega
      have hjl : (j : Int) ≤ (l.length : Int) := by have := K.out.le; omega
      by_cases hlt : j < l.length
      · have hltz : (j : Int) < (l.length : Int) := by omega
        have p157 : (0 : Int) ≤ (j : Int) := by omega
        obtain ⟨ad, e157, hx0, hx1⟩ := at_T28 (Kd.R_reads' HR.out).2.2 (j : Int) p157 (by rw [K.out.len]; exact hltz)
        cases e157
        rw [K.out.at_] at hx0 hx1
        simp only [Int.toNat_natCast, add_plain] at hx0 hx1
        have KS := fun h => Aside0.mk (K.out.skip hlt h)
        have KK := fun h => Aside0.mk (K.out.keep hlt h)
        replace KS := Aside0.mk KS
        replace KK := Aside0.mk KK
        generalize rd_T28 l (j : Int) = y at hx0 hx1 KS KK
        have hBlk : gr < wr.heap.size := World.block_lt_of_cell? wr _ hx0
        have hcall := HCL.out y (wr.alloc (.cells #[.string y.f0, .string y.f1] 28)) (HB.out.trans (((Below.refl _ _).alloc (Nat.le_refl _) _).mono HB.out.size))
        replace p157 := eq_true p157
        replace hltz := eq_true hltz
        cases hq : p y with
        | true =>
          rw [hq] at hcall
          have HC := Aside0.mk hcall
          replace KS := KS.out hq
          clear hcall hq KK hlt
          go_wp2_with (go_at_fn g; refine HC.out.mono ?_; rintro e w' ⟨rfl, hb'⟩)
          have hb2 : Below wr.heap.size wr w' := ((Below.refl _ _).alloc (Nat.le_refl _) _).trans (hb'.mono (by simp))
          go_roundg (l.length - (j + 1))
          case measure => have := of_eq_true hltz; omega
          case rel => exact ⟨i, j + 1, xs, rfl, by go_num, by omega, KS, ⟨Kd.R_below HR.out hb2⟩, ⟨HB.out.trans (hb2.mono HB.out.size)⟩⟩
        | false =>
          rw [hq] at hcall
          have HC := Aside0.mk hcall
          replace KK := KK.out hq
          have hil : (i : Int) < (l.length : Int) := by omega
          have hi0 : (0 : Int) ≤ (i : Int) := by omega
          replace hil := eq_true hil
          replace hi0 := eq_true hi0
          have hne : gr ≠ wr.heap.size := by omega
          clear hcall hq KS hlt
          go_wp2_with fail
          refine HC.out.mono ?_
          rintro e w' ⟨rfl, hb'⟩
          have hb2 : Below wr.heap.size wr w' := ((Below.refl _ _).alloc (Nat.le_refl _) _).trans (hb'.mono (by simp))
          have hy0 : w'.cell? ⟨wr.heap.size, 0, none⟩ = some (.string y.f0) := (hb'.cell (p := ⟨wr.heap.size, 0, none⟩) (by simp)).trans (by simp)
          have hy1 : w'.cell? ⟨wr.heap.size, 1, none⟩ = some (.string y.f1) := (hb'.cell (p := ⟨wr.heap.size, 1, none⟩) (by simp)).trans (by simp)
          have HR2 := Aside0.mk (Kd.R_below HR.out hb2)
          have HB2 := Aside0.mk (HB.out.trans (hb2.mono HB.out.size))
          clear hb' HR HB hb2
          obtain ⟨ce, hcl, hM, hcc, hfr⟩ := Kd.R_elem HR2.out z28 (i : Int) (of_eq_true hi0) (of_eq_true hil)
          obtain rfl := k28_openM hM
          have HCC := Aside0.mk hcc
          clear hcl hM hcc hfr
          go_wp2_with ((with_reducible refine gate_store (t := 28) (p := 33) rfl ?_); refine Kd.R_store k28 (w0 := w1) w1.heap.size rfl rfl 28 (.tmp 33) (.tmp 32) rfl 28 (i : Int) 0 xs y (.agg #[.string y.f0, .string y.f1]) [.string y.f0, .string y.f1] _ (fun _ => True) (fun _ => False) rfl ?hoff rfl rfl size28 ?h1 HR2.out (of_eq_true hi0) (of_eq_true hil) rfl HCC.out (Nat.le_refl _) (k28_mkM _ _ _ y) (fun _ hk => hk.elim) HB2.out ?_; (case hoff => rfl); (case h1 => simp [Value.oneCell']); intro w3 hR3 hB3 _; have HR3 := Aside0.mk hR3; have HB3 := Aside0.mk hB3; clear hR3 hB3 HR2 HB2)
          go_roundg (l.length - (j + 1))
          case measure => have := of_eq_true hltz; omega
          case rel => exact ⟨i + 1, j + 1, _, by go_num, by go_num, by omega, KK, HR3, HB3⟩
      · obtain rfl : j = l.length := by have := K.out.le; omega
        have hltz : ¬ ((l.length : Int) < (l.length : Int)) := by omega
        have hnc := (Kd.R_reads' HR.out).2.1
        have hcz : (l.length : Int) ≤ (c : Int) := by omega
        have hxl := K.out.len
        have hil : i < l.length := by omega
        have hel : ∀ q, q < l.length → ((wr.cell? ⟨gr, q * 2, none⟩).isSome = true ∧ (wr.cell? ⟨gr, q * 2 + 1, none⟩).isSome = true) ∧ ∀ j, wr.frozen? ⟨gr, q * 2 + j, none⟩ = false := fun q hq => by
          obtain ⟨ce, _, hM, hcc, hfr⟩ := Kd.R_elem HR.out z28 (q : Int) (by omega) (by omega)
          obtain rfl := k28_openM hM
          have h0 := hcc 0 _ rfl
          have h1 := hcc 1 _ rfl
          have hfr' : ∀ j, wr.frozen? ⟨gr, (q : Int).toNat * 2 + j, none⟩ = false := hfr
          simp only [Int.toNat_natCast] at hfr'
          change wr.cell? ⟨gr, (q : Int).toNat * 2, none⟩ = _ at h0
          change wr.cell? ⟨gr, (q : Int).toNat * 2 + 1, none⟩ = _ at h1
          simp only [Int.toNat_natCast] at h0 h1
          exact ⟨⟨by rw [h0]; rfl, by rw [h1]; rfl⟩, hfr'⟩
        have hcl : ∀ ty, (Builtin.clear_ #[22] ty #[.slice (some ⟨gr, i * 2, none⟩) (l.length - i) (c - i)]).run Try.prog wr = .ok (.tuple #[]) (wr.setCells gr (i * 2) (Builtin.zeroCells #[.string ⟨#[]⟩, .string ⟨#[]⟩] (l.length - i)).toList) :=
          fun ty => run_clear28 wr ty gr (i * 2) (l.length - i) (c - i) (by omega) (fun j hj => by
            obtain ⟨q, r, hr, rfl⟩ : ∃ q r, r < 2 ∧ j = q * 2 + r := ⟨j / 2, j % 2, Nat.mod_lt _ (by omega), by omega⟩
            have h := (hel (i + q) (by omega)).1
            rw [show i * 2 + (q * 2 + r) = (i + q) * 2 + r by omega]
            match r, hr with
            | 0, _ => exact h.1
            | 1, _ => exact h.2) (fun j hj => by
            rw [show i * 2 + j = (i + j / 2) * 2 + j % 2 by omega]
            exact (hel (i + j / 2) (by omega)).2 _)
        have hzl : (Builtin.zeroCells #[.string ⟨#[]⟩, .string ⟨#[]⟩] (l.length - i)).toList.length = (l.length - i) * 2 := by simp [Builtin.zeroCells]
        obtain ⟨hR2, hg2⟩ := R_clear (Builtin.zeroCells #[.string ⟨#[]⟩, .string ⟨#[]⟩] (l.length - i)).toList HR.out (i := i) (by omega) (by rw [hzl]; show i * 2 + (l.length - i) * 2 ≤ l.length * 2; omega)
        change Kd.R k28 28 (wr.setCells gr (i * 2) _) _ _ _ _ at hR2
        change wr.grownBy (wr.setCells gr (i * 2) _) _ at hg2
        have hd := K.out.done
        rw [List.take_of_length_le (Nat.le_refl _)] at hd
        rw [hd] at hR2
        have hB2 := Aside0.mk (HB.out.grown hg2 HB.out.size (fun k e => by cases e; exact GB.out))
        replace hR2 := Aside0.mk hR2
        have hi0 : (0 : Int) ≤ (i : Int) := by omega
        have hic : (i : Int) ≤ (c : Int) := by omega
        have hic2 : ¬ c = i := by omega
        clear hnc hel hg2 hzl hd HR HB K hxl
        go_wp2
        go_ret
        exact ⟨_, rfl, hR2.out, hB2.out⟩

def token_Without.f (l0 : List S28) (a1 : ByteArray) : Option (List S28) := if l0.length < 4398046511104 then some (l0.filter fun a => !(a.f0.toList == a1.toList)) else none

set_option maxHeartbeats 4000000 in
set_option maxRecDepth 100000 in
theorem token_Without.calls (A0 : Option Addr) (c0 : Nat) (l0 : List S28) (a1 : ByteArray) (r : List S28) (w : World) (hr0 : Kd.C k28 w A0 l0.length l0) (hc0 : l0.length ≤ c0) (h : token_Without.f l0 a1 = some r) :
    Calls Try.prog 29 #[.slice A0 l0.length c0, .string a1] w fun e w' => ∃ v0_ : Value, e = .returned (v0_) ∧ Kd.R k28 28 w' w.heap.size (fun _ => True) v0_ r ∧ Below w.heap.size w w' := by
  unfold token_Without.f at h
  by_cases hl : l0.length < 4398046511104
  · rw [if_pos hl] at h
    obtain rfl := Option.some.inj h
    have hcl := token_Attr_50.calls A0 c0 l0 l0 (w.alloc (.cells #[.string a1] 9)) (Kd.C_alloc hr0 _) hc0 (by unfold token_Attr_50.f; rw [if_pos hl])
    have ht := without1_tells a1 w.heap.size (w.alloc (.cells #[.string a1] 9)) (by simp) (by simp)
    have HD := Aside0.mk fun v w' hB hR => deleteFunc_calls 52 #[.pointer (some ⟨w.heap.size, 0, none⟩)] enters52 _ v l0 (w.alloc (.cells #[.string a1] 9)) w' hB hR hl ht
    have HC := Aside0.mk hcl
    clear h hcl ht hr0 hc0 hl
    go_enter Try.func29, Try.ntmps29
    go_wp2_with fail
    refine HC.out.mono ?_
    rintro e w' ⟨v, rfl, hR, hB⟩
    have HDv := Aside0.mk (HD.out v w' hB hR)
    clear HD HC hR hB
    go_wp2_with fail
    refine HDv.out.mono ?_
    rintro e w2 ⟨v0, rfl, hR, hB⟩
    have HR := Aside0.mk (Kd.R_lower (base' := w.heap.size) hR (by simp))
    have HB := Aside0.mk (((Below.refl _ w).alloc (Nat.le_refl _) _).trans (hB.mono (by simp)))
    clear HDv hR hB
    go_wp2
    go_ret
    exact ⟨_, rfl, HR.out, HB.out⟩
  · rw [if_neg hl] at h
    cases h

end Go.Proofs.Ytccadgnbomgpcaa.Tk
