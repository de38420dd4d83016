/-
  token.Join at the two texts a and b, and the statements' head: it returns true.
-/
import Derived.Test.YtccadgnbomgpcaaTk0
namespace Go.Proofs.Ytccadgnbomgpcaa.Tk
open Go.RowKit Go.Proofs.YtccadgnbomgpcaaW.PrintWords Go.Proofs.YtccadgnbomgpcaaW.PrintLast Go.Proofs.YtccadgnbomgpcaaW.PrintMore

theorem info24 : (Try.prog.info? 24).map (fun i => (i.zero, i.size, i.bytes)) = some (some (.agg #[.int .i64 0, .string ⟨#[]⟩, .slice none 0 0, .bool false, .string ⟨#[]⟩, .string ⟨#[]⟩, .string ⟨#[]⟩, .bool false, .bool false, .bool false]), 10, 112) := by kernel_rfl

def tokS (s : ByteArray) : S24 := ⟨1, ⟨#[]⟩, [], false, s, ⟨#[]⟩, ⟨#[]⟩, false, false, false⟩
def cellsS (s : ByteArray) : List Value := [.int .i64 1, .string ⟨#[]⟩, .slice none 0 0, .bool false, .string s, .string ⟨#[]⟩, .string ⟨#[]⟩, .bool false, .bool false, .bool false]
theorem tokS_M (w : World) (base : Nat) (ok : Nat → Prop) (s : ByteArray) : k24.M w base ok (tokS s) [.int .i64 1, .string ⟨#[]⟩, .slice none 0 0, .bool false, .string s, .string ⟨#[]⟩, .string ⟨#[]⟩, .bool false, .bool false, .bool false] :=
  k24_mkM w base ok (tokS s) (v2 := .slice none 0 0) (Kd.R_nil _ _ _ _ _)

theorem ab_bytes : (⟨#[97]⟩ : ByteArray) ++ ⟨#[98]⟩ = ⟨#[97, 98]⟩ := by decide
/-- What has come out of the first k tokens. -/
def joined : Nat → List S24
  | 0 => []
  | 1 => [tokS ⟨#[97]⟩]
  | _ => [tokS ⟨#[97, 98]⟩]

set_option maxHeartbeats 8000000 in
set_option maxRecDepth 100000 in
theorem join_ab (g : Nat) (w : World) (hg : g < w.heap.size)
    (h : w.heap[g]? = some (.cells #[.int .i64 1, .string ⟨#[]⟩, .slice none 0 0, .bool false, .string ⟨#[97]⟩, .string ⟨#[]⟩, .string ⟨#[]⟩, .bool false, .bool false, .bool false, .int .i64 1, .string ⟨#[]⟩, .slice none 0 0, .bool false, .string ⟨#[98]⟩, .string ⟨#[]⟩, .string ⟨#[]⟩, .bool false, .bool false, .bool false] 24 (0, 0))) :
    Calls Try.prog 42 #[.slice (some ⟨g, 0, none⟩) 2 2] w fun e w' => ∃ v : Value, e = .returned v ∧ Kd.R k24 24 w' w.heap.size (fun _ => True) v [tokS ⟨#[97, 98]⟩] ∧ Below w.heap.size w w' := by
  have hu24 := Try.underlying24
  have hcell : ∀ (W : World), Below w.heap.size w W → ∀ j, W.cell? ⟨g, j, none⟩ = _ := fun W hW j => (hW.cell (p := ⟨g, j, none⟩) hg).trans (cell_of_row w g j _ 24 (0, 0) h)
  have HCELL := Aside0.mk hcell
  clear hcell h hg
  go_enter Try.func42, Try.ntmps42
  go_wp2
  go_loopg [3, 9] 2 (fun gg v3 v9 wr => ∃ k : Nat, k ≤ 2 ∧ 2 - k ≤ gg ∧ v9 = .int .i64 k ∧ Aside0 (Kd.R k24 24 wr w.heap.size (fun _ => True) v3 (joined k)) ∧ Aside0 (Below w.heap.size w wr))
  case atStart => exact ⟨0, by omega, by omega, rfl, ⟨Kd.R_nil _ _ _ _ _⟩, ⟨Below.refl _ _⟩⟩
  case round =>
    obtain ⟨k, hk, hgg, rfl, HR, HB⟩ := hrel
    match k, hk with
    | 0, _ =>
      have hc := HCELL.out wr HB.out
      have hx0 := hc 0
      have hx1 := hc 1
      have hx2 := hc 2
      have hx3 := hc 3
      have hx4 := hc 4
      have hx5 := hc 5
      have hx6 := hc 6
      have hx7 := hc 7
      have hx8 := hc 8
      have hx9 := hc 9
      clear hc
      obtain ⟨A, c, hv⟩ := Kd.R_slice HR.out
      rw [show (joined 0).length = 0 from rfl] at hv
      subst hv
      change Aside0 (Kd.R k24 24 wr w.heap.size (fun _ => True) (.slice A 0 c) []) at HR
      simp at hx0 hx1 hx2 hx3 hx4 hx5 hx6 hx7 hx8 hx9
      go_wp2_with ((with_reducible refine gate_builtin (b := .append) (xs := #[.tmp 50, .tmp 52]) rfl ?_); at_builtin; refine Kd.R_append k24 (w0 := w) w.heap.size rfl (.tmp 50) (.tmp 52) 66 24 (.agg #[.int .i64 0, .string ⟨#[]⟩, .slice none 0 0, .bool false, .string ⟨#[]⟩, .string ⟨#[]⟩, .string ⟨#[]⟩, .bool false, .bool false, .bool false]) 112 rfl Try.underlying66 info24 rfl (by decide) (by omega) (.slice A 0 c) [] (tokS ⟨#[97]⟩) [.int .i64 1, .string ⟨#[]⟩, .slice none 0 0, .bool false, .string ⟨#[97]⟩, .string ⟨#[]⟩, .string ⟨#[]⟩, .bool false, .bool false, .bool false] (fun _ => True) (fun _ => False) rfl ?aX ?aP (fun _ hk => hk.elim) (fun _ _ => trivial) ?aO ?aB ?aS ?aL ?_; (case aX => (show Value.slice (some ⟨wr.heap.size + 1, 0, none⟩) 1 1 = _; rw [World.size_alloc])); (case aP => exact tokS_M _ _ _ _); (case aO => exact Kd.R_alloc HR.out _); (case aB => exact below_alloc HB.out _); (case aS => exact below_size (below_alloc HB.out _)); (case aL => simp); intro v1 w1 ho hb _ _; have HR1 := Aside0.mk ho; have HB1 := Aside0.mk hb; clear ho hb HR HB)
      go_roundg 1
      case measure => omega
      case rel => exact ⟨1, by omega, by omega, by go_num, HR1, HB1⟩
    | 1, _ =>
      have hc := HCELL.out wr HB.out
      have hx0 := hc 10
      have hx1 := hc 11
      have hx2 := hc 12
      have hx3 := hc 13
      have hx4 := hc 14
      have hx5 := hc 15
      have hx6 := hc 16
      have hx7 := hc 17
      have hx8 := hc 18
      have hx9 := hc 19
      clear hc
      change Aside0 (Kd.R k24 24 wr w.heap.size (fun _ => True) _ [tokS ⟨#[97]⟩]) at HR
      obtain ⟨gr, c, hv, hgb, hglt, _⟩ := Kd.R_form HR.out (by simp)
      rw [show ([tokS ⟨#[97]⟩] : List S24).length = 1 from rfl] at hv
      subst hv
      simp at hx0 hx1 hx2 hx3 hx4 hx5 hx6 hx7 hx8 hx9
      obtain ⟨ce, hcl, hM, hcc, hfr⟩ := Kd.R_elem HR.out z24 0 (by omega) (by omega)
      obtain ⟨v2, rfl, g2⟩ := k24_openM hM
      have hr0 : wr.cell? ⟨gr, 0, none⟩ = some (.int .i64 1) := hcc 0 _ rfl
      have hr4 : wr.cell? ⟨gr, 4, none⟩ = some (.string ⟨#[97]⟩) := hcc 4 _ rfl
      have hf4 : wr.frozen? ⟨gr, 4, none⟩ = false := hfr 4
      have hne : gr ≠ wr.heap.size := by omega
      have hne' : ¬ wr.heap.size = gr := by omega
      obtain ⟨hR2, hg2⟩ := Kd.R_seg HR.out 0 (by omega) (by omega) (seg := [.string (⟨#[97]⟩ ++ ⟨#[98]⟩)]) (j := 4) hcl hcc (by decide) (x' := tokS ⟨#[97, 98]⟩) (by rw [ab_bytes]; exact k24_mkM _ _ _ (tokS ⟨#[97, 98]⟩) g2) (fun _ hk => hk)
      have HR2 := Aside0.mk (show Kd.R k24 24 (wr.setCell ⟨gr, 4, none⟩ (.string (⟨#[97]⟩ ++ ⟨#[98]⟩))) w.heap.size (fun _ => True) (.slice (some ⟨gr, 0, none⟩) 1 c) (joined 2) from hR2)
      have HB2 := Aside0.mk (show Below w.heap.size w (wr.setCell ⟨gr, 4, none⟩ (.string (⟨#[97]⟩ ++ ⟨#[98]⟩))) from below_set HB.out hgb)
      clear hcl hM hcc hfr hR2 hg2 g2
      go_wp2
      go_region
      go_wp2
      go_roundg 0
      case measure => omega
      case rel => exact ⟨2, by omega, by omega, by go_num, ⟨Kd.R_drew (Kd.R_alloc HR2.out _)⟩, ⟨below_drew1 (below_alloc HB2.out _)⟩⟩
    | 2, _ =>
      go_wp2
      go_ret
      exact ⟨_, rfl, HR.out, HB.out⟩

def woodcutlaw07_head.f : Option Bool := some true

set_option maxHeartbeats 8000000 in
set_option maxRecDepth 100000 in
theorem woodcutlaw07_head.calls (r : Bool) (w : World) (h : woodcutlaw07_head.f = some r) :
    Calls Try.prog 14 #[] w fun e w' => e = .returned (.bool r) ∧ Below w.heap.size w w' := by
  obtain rfl := Option.some.inj h
  clear h
  have hu24 := Try.underlying24
  go_enter Try.func14, Try.ntmps14
  go_wp2_with fail
  refine (join_ab w.heap.size _ (by simp) (heap_alloc_new w _)).mono ?_
  rintro e w1 ⟨v, rfl, hR, hB⟩
  obtain ⟨gr, c, hv, hgb, hglt, _⟩ := Kd.R_form hR (by simp)
  rw [show ([tokS ⟨#[97, 98]⟩] : List S24).length = 1 from rfl] at hv
  subst hv
  obtain ⟨ce, hcl, hM, hcc, hfr⟩ := Kd.R_elem hR z24 0 (by omega) (by omega)
  obtain ⟨v2, rfl, _⟩ := k24_openM hM
  have hr4 : w1.cell? ⟨gr, 4, none⟩ = some (.string ⟨#[97, 98]⟩) := hcc 4 _ rfl
  have HB := Aside0.mk (((Below.refl _ w).alloc (Nat.le_refl _) _).trans (hB.mono (by simp)))
  clear hR hB hgb hglt hcl hM hcc hfr
  go_wp2
  go_ret
  exact ⟨rfl, HB.out⟩

end Go.Proofs.Ytccadgnbomgpcaa.Tk
