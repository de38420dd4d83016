/-
  How the arguments of the statements on tokens read: a slice of attributes, a slice of names, a token; for every reading.
-/
import Derived.Test.YtccadgnbomgpcaaTk0
import Derived.ProofKit
import Derived.OpenShut
import Derived.ChangeOld
import Derived.SizedLaws
namespace Go.Proofs.Ytccadgnbomgpcaa.Tk
open Go.RowKit Go.ChangeShapes Go.WideShapes Go.Proofs.YtccadgnbomgpcaaW.PrintWords Go.Proofs.YtccadgnbomgpcaaW.PrintLast Go.Proofs.YtccadgnbomgpcaaW.PrintMore

/-- Out of one thing for each place, a list. -/
theorem list_of {α : Type} {Q : Nat → α → Prop} : ∀ (n : Nat), (∀ i, i < n → ∃ p, Q i p) → ∃ l : List α, l.length = n ∧ ∀ i p, l[i]? = some p → Q i p
  | 0, _ => ⟨[], rfl, fun i p h => by simp at h⟩
  | n + 1, h => by
    obtain ⟨l, hl, hq⟩ := list_of n (fun i hi => h i (by omega))
    obtain ⟨p, hp⟩ := h n (by omega)
    refine ⟨l ++ [p], by simp [hl], fun i q hi => ?_⟩
    rw [List.getElem?_append] at hi
    split at hi
    · exact hq i q hi
    · have e : i = n := by
        have := (List.getElem?_eq_some_iff.1 hi).1
        simp at this
        omega
      subst e
      rw [hl, Nat.sub_self] at hi
      obtain rfl : p = q := by simpa using hi
      exact hp

theorem add_add_ (a : Addr) (i j : Nat) : (a.add i).add j = a.add (i + j) := by
  unfold Addr.add
  by_cases h1 : i = 0
  · subst h1; simp
  · by_cases h2 : j = 0
    · subst h2; simp [h1]
    · simp [h1, h2, Nat.add_assoc]

section
variable {H : Type} {enc : TypeId × Value → H} {w : World} {base : Nat} {spare : Nat → Bool} {held : Bool}

/-- A slice whose elements read by a kind, reads by that kind. -/
theorem open_C {α : Type} (dk : Kd α) {Φ : α → DataW H → Prop} {t e : TypeId} {fuel : Nat} {cs : List Value} {x : DataW H × List MemPlace} (ht : Try.prog.underlying t = some (.slice e)) (hC : Try.prog.cellsOf e = dk.sz)
    (hK : ∀ (n : Nat) (cs : List Value) (y : DataW H × List MemPlace), cs.length = dk.sz → DataW.trod enc Try.prog w base spare held n e cs = some y → ∃ p : α, dk.K w p cs ∧ Φ p y.1)
    (h : DataW.trod enc Try.prog w base spare held fuel t cs = some x) :
    ∃ (a : Option Addr) (cap : Nat) (l : List α), cs = [.slice a l.length cap] ∧ l.length ≤ cap ∧ dk.C w a l.length l ∧
      (∀ p ∈ l, ∃ y : DataW H, Φ p y ∧ ∃ els rest, x.1 = .slice els rest ∧ y ∈ els) := by
  rcases DataW.trod_slice ht h with ⟨rfl, rfl⟩ | ⟨a, len, cap, elems, rest, n, _, rfl, rfl, _, hl, hm, hlen, hel, _, _⟩
  · exact ⟨none, 0, [], rfl, Nat.le_refl _, Kd.C_nil dk w, fun p hp => (by cases hp)⟩
  · rw [hC] at hel
    have each : ∀ i, i < len → ∃ p : α, (∃ (c : List Value), dk.K w p c ∧ c.length = dk.sz ∧ (∀ j u, c[j]? = some u → w.cell? (a.add (i * dk.sz + j)) = some u)) ∧ ∃ y : DataW H × List MemPlace, elems[i]? = some y ∧ Φ p y.1 := fun i hi => by
      have h1 := hel i hi
      have hi' : i < elems.length := by omega
      rw [List.getElem?_eq_getElem hi'] at h1
      obtain ⟨c, hc, hy⟩ := Option.bind_eq_some_iff.1 h1
      obtain ⟨_, hcl, hat⟩ := World.cells?_some hc
      obtain ⟨p, hp, hφ⟩ := hK n c _ hcl hy
      refine ⟨p, ⟨c, hp, hcl, fun j u hu => ?_⟩, _, List.getElem?_eq_getElem hi', hφ⟩
      have hj : j < dk.sz := by rw [← hcl]; exact (List.getElem?_eq_some_iff.1 hu).1
      rw [← hu, ← hat j hj, add_add_]
    obtain ⟨l, hll, hq⟩ := list_of len each
    subst hll
    refine ⟨some a, cap, l, rfl, hl, ⟨rfl, ?_, fun _ => ⟨a, rfl, fun j p hp => ?_⟩⟩, fun p hp => ?_⟩
    · unfold maxLen at hm; omega
    · obtain ⟨⟨c, h1, h2, h3⟩, _⟩ := hq j p hp
      exact ⟨c, h2, h1, h3⟩
    · obtain ⟨i, hi⟩ := List.mem_iff_getElem?.1 hp
      obtain ⟨_, y, h4, h5⟩ := hq i p hi
      exact ⟨y.1, h5, _, _, rfl, List.mem_map.2 ⟨y, List.mem_of_getElem? h4, rfl⟩⟩

theorem cells28 : Try.prog.cellsOf 28 = 2 := by kernel_rfl
theorem cells9 : Try.prog.cellsOf 9 = 1 := by kernel_rfl
theorem cells24 : Try.prog.cellsOf 24 = 10 := by kernel_rfl
theorem cells22 : Try.prog.cellsOf 22 = 1 := by kernel_rfl
theorem cells3 : Try.prog.cellsOf 3 = 1 := by kernel_rfl
theorem cells4 : Try.prog.cellsOf 4 = 1 := by kernel_rfl

/-- An attribute's reading. -/
theorem attr_K (n : Nat) (cs : List Value) (y : DataW H × List MemPlace) (hl : cs.length = 2) (h : DataW.trod enc Try.prog w base spare held n 28 cs = some y) :
    ∃ p : S28, k28.K w p cs ∧ y.1 = .agg [.lit (.string p.f0.data.toList), .lit (.string p.f1.data.toList)] := by
  match cs, hl with
  | [c0, c1], _ =>
    obtain ⟨xs, m, _, rfl, _, hxl, hf⟩ := DataW.trod_struct Try.underlying28 h
    have h0 : DataW.trod enc Try.prog w base spare held m 9 (([c0, c1].drop 0).take (Try.prog.cellsOf 9)) = xs[0]? := hf 0 _ rfl
    have h1 : DataW.trod enc Try.prog w base spare held m 9 (([c0, c1].drop 1).take (Try.prog.cellsOf 9)) = xs[1]? := hf 1 _ rfl
    rw [cells9] at h0 h1
    match xs, hxl with
    | [y0, y1], _ =>
      obtain ⟨s0, e0, rfl, _⟩ := DataW.trod_string Try.underlying9 h0
      obtain ⟨s1, e1, rfl, _⟩ := DataW.trod_string Try.underlying9 h1
      simp at e0 e1
      subst e0 e1
      exact ⟨⟨s0, s1⟩, k28_mk w ⟨s0, s1⟩, rfl⟩

/-- A []token.Attr. -/
theorem open_attrs {a : Option Addr} {len cap : Nat} {d : DataW H} {p : List MemPlace} (h : DataW.Trod enc Try.prog w base spare held 22 (.slice a len cap) d p) :
    ∃ l : List S28, len = l.length ∧ l.length ≤ cap ∧ Kd.C k28 w a l.length l := by
  obtain ⟨fuel, hf⟩ := h
  obtain ⟨a', cap', l, hcs, h1, h2, _⟩ := open_C k28 (Φ := fun _ _ => True) Try.underlying22 cells28 (fun n cs y hl hy => by obtain ⟨p, hp, _⟩ := attr_K n cs y hl hy; exact ⟨p, hp, trivial⟩) hf
  simp [Value.cells] at hcs
  obtain ⟨rfl, rfl, rfl⟩ := hcs
  exact ⟨l, rfl, h1, h2⟩

/-- A []string. -/
theorem open_names {a : Option Addr} {len cap : Nat} {d : DataW H} {p : List MemPlace} (h : DataW.Trod enc Try.prog w base spare held 30 (.slice a len cap) d p) :
    ∃ l : List ByteArray, len = l.length ∧ l.length ≤ cap ∧ Kd.C Kd.string w a l.length l := by
  obtain ⟨fuel, hf⟩ := h
  obtain ⟨a', cap', l, hcs, h1, h2, _⟩ := open_C Kd.string (Φ := fun _ _ => True) Try.underlying30 cells9 (fun n cs y hl hy => by
    obtain ⟨s, rfl, _, _⟩ := DataW.trod_string Try.underlying9 hy
    exact ⟨s, rfl, trivial⟩) hf
  simp [Value.cells] at hcs
  obtain ⟨rfl, rfl, rfl⟩ := hcs
  exact ⟨l, rfl, h1, h2⟩

/-- A token. -/
theorem open_token {r : Reach} {b0 : Nat} {v : Value} {d : DataW H} {p : List MemPlace} (hv : Value.okWide Try.prog w r b0 24 v) (h : DataW.Trod enc Try.prog w base spare held 24 v d p) :
    ∃ (f0 : Int) (f1 : ByteArray) (A2 : Option Addr) (c2 : Nat) (l2 : List S28) (f3 : Bool) (f4 f5 f6 : ByteArray) (f7 f8 f9 : Bool) (d2 : DataW H),
      v = .agg #[.int .i64 f0, .string f1, .slice A2 l2.length c2, .bool f3, .string f4, .string f5, .string f6, .bool f7, .bool f8, .bool f9] ∧ l2.length ≤ c2 ∧ Kd.C k28 w A2 l2.length l2 ∧ (Lit.int .i64 f0).wf = true ∧
      d = .agg [.lit (.int .i64 f0), .lit (.string f1.data.toList), d2, .lit (.bool f3), .lit (.string f4.data.toList), .lit (.string f5.data.toList), .lit (.string f6.data.toList), .lit (.bool f7), .lit (.bool f8), .lit (.bool f9)] ∧
      ∀ q ∈ l2, ∃ els rest, d2 = .slice els rest ∧ (DataW.agg [.lit (.string q.f0.data.toList), .lit (.string q.f1.data.toList)] : DataW H) ∈ els := by
  obtain ⟨cs, rfl, hsz⟩ := okWide_struct Try.underlying24 hv
  rw [cells24] at hsz
  obtain ⟨cs⟩ := cs
  match cs, hsz with
  | [c0, c1, c2, c3, c4, c5, c6, c7, c8, c9], _ =>
    obtain ⟨fuel, hf⟩ := h
    obtain ⟨xs, m, _, hx, _, hxl, hg⟩ := DataW.trod_struct Try.underlying24 hf
    match xs, hxl with
    | [y0, y1, y2, y3, y4, y5, y6, y7, y8, y9], _ =>
      have h0 : DataW.trod enc Try.prog w base spare held m 3 (([c0, c1, c2, c3, c4, c5, c6, c7, c8, c9].drop 0).take (Try.prog.cellsOf 3)) = some y0 := hg 0 _ rfl
      have h1 : DataW.trod enc Try.prog w base spare held m 9 (([c0, c1, c2, c3, c4, c5, c6, c7, c8, c9].drop 1).take (Try.prog.cellsOf 9)) = some y1 := hg 1 _ rfl
      have h2 : DataW.trod enc Try.prog w base spare held m 22 (([c0, c1, c2, c3, c4, c5, c6, c7, c8, c9].drop 2).take (Try.prog.cellsOf 22)) = some y2 := hg 2 _ rfl
      have h3 : DataW.trod enc Try.prog w base spare held m 4 (([c0, c1, c2, c3, c4, c5, c6, c7, c8, c9].drop 3).take (Try.prog.cellsOf 4)) = some y3 := hg 3 _ rfl
      have h4 : DataW.trod enc Try.prog w base spare held m 9 (([c0, c1, c2, c3, c4, c5, c6, c7, c8, c9].drop 4).take (Try.prog.cellsOf 9)) = some y4 := hg 4 _ rfl
      have h5 : DataW.trod enc Try.prog w base spare held m 9 (([c0, c1, c2, c3, c4, c5, c6, c7, c8, c9].drop 5).take (Try.prog.cellsOf 9)) = some y5 := hg 5 _ rfl
      have h6 : DataW.trod enc Try.prog w base spare held m 9 (([c0, c1, c2, c3, c4, c5, c6, c7, c8, c9].drop 6).take (Try.prog.cellsOf 9)) = some y6 := hg 6 _ rfl
      have h7 : DataW.trod enc Try.prog w base spare held m 4 (([c0, c1, c2, c3, c4, c5, c6, c7, c8, c9].drop 7).take (Try.prog.cellsOf 4)) = some y7 := hg 7 _ rfl
      have h8 : DataW.trod enc Try.prog w base spare held m 4 (([c0, c1, c2, c3, c4, c5, c6, c7, c8, c9].drop 8).take (Try.prog.cellsOf 4)) = some y8 := hg 8 _ rfl
      have h9 : DataW.trod enc Try.prog w base spare held m 4 (([c0, c1, c2, c3, c4, c5, c6, c7, c8, c9].drop 9).take (Try.prog.cellsOf 4)) = some y9 := hg 9 _ rfl
      rw [cells3] at h0
      rw [cells9] at h1 h4 h5 h6
      rw [cells22] at h2
      rw [cells4] at h3 h7 h8 h9
      obtain ⟨f0, e0, g0, wf⟩ := DataW.trod_int Try.underlying3 h0
      obtain ⟨f1, e1, g1, _⟩ := DataW.trod_string Try.underlying9 h1
      obtain ⟨A2, cap2, l2, e2, q1, q2, q3⟩ := open_C k28 (Φ := fun p y => y = .agg [.lit (.string p.f0.data.toList), .lit (.string p.f1.data.toList)]) Try.underlying22 cells28 (fun n cs y hl hy => attr_K n cs y hl hy) h2
      obtain ⟨f3, e3, g3⟩ := DataW.trod_bool Try.underlying4 h3
      obtain ⟨f4, e4, g4, _⟩ := DataW.trod_string Try.underlying9 h4
      obtain ⟨f5, e5, g5, _⟩ := DataW.trod_string Try.underlying9 h5
      obtain ⟨f6, e6, g6, _⟩ := DataW.trod_string Try.underlying9 h6
      obtain ⟨f7, e7, g7⟩ := DataW.trod_bool Try.underlying4 h7
      obtain ⟨f8, e8, g8⟩ := DataW.trod_bool Try.underlying4 h8
      obtain ⟨f9, e9, g9⟩ := DataW.trod_bool Try.underlying4 h9
      simp only [List.drop_zero, List.drop_succ_cons, List.take_succ_cons, List.take_zero, List.cons.injEq, and_true] at e0 e1 e2 e3 e4 e5 e6 e7 e8 e9
      subst e0 e1 e2 e3 e4 e5 e6 e7 e8 e9
      subst g0 g1 g3 g4 g5 g6 g7 g8 g9
      simp only [Prod.mk.injEq] at hx
      refine ⟨f0, f1, A2, cap2, l2, f3, f4, f5, f6, f7, f8, f9, y2.1, rfl, q1, q2, wf, hx.1, fun q hq => ?_⟩
      obtain ⟨y, rfl, els, rest, h4, h5⟩ := q3 q hq
      exact ⟨els, rest, h4, h5⟩

end
end Go.Proofs.Ytccadgnbomgpcaa.Tk
