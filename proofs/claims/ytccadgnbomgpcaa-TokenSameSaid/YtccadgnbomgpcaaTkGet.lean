/-
  slices.IndexFunc at []token.Attr with a closure, and token.Get: for every slice of attributes that reads as a list of less than 2^42 elements, and every name.
-/
import Derived.Test.YtccadgnbomgpcaaTk0
import Derived.Shelf.Abstract

namespace Go.Proofs.Ytccadgnbomgpcaa.Tk
open Go.RowKit Go.Shelf Go.Proofs.YtccadgnbomgpcaaW.PrintWords Go.Proofs.YtccadgnbomgpcaaW.PrintLast Go.Proofs.YtccadgnbomgpcaaW.PrintMore

/-- The first place, from place k on, at which p holds; -1: there is none. -/
def idxOf (p : S28 → Bool) : List S28 → Nat → Int
  | [], _ => -1
  | x :: l, k => if p x = true then (k : Int) else idxOf p l (k + 1)

theorem idx_hit {p : S28 → Bool} {l : List S28} {k : Nat} (hk : k < l.length) (h : p (rd_T28 l (k : Int)) = true) : idxOf p (l.drop k) k = k := by
  rw [List.drop_eq_getElem_cons hk]
  have e : rd_T28 l (k : Int) = l[k] := by simp [rd_T28, hk]
  rw [e] at h
  simp [idxOf, h]
theorem idx_miss {p : S28 → Bool} {l : List S28} {k : Nat} (hk : k < l.length) (h : p (rd_T28 l (k : Int)) = false) : idxOf p (l.drop k) k = idxOf p (l.drop (k + 1)) (k + 1) := by
  rw [List.drop_eq_getElem_cons hk]
  have e : rd_T28 l (k : Int) = l[k] := by simp [rd_T28, hk]
  rw [e] at h
  simp [idxOf, h]
theorem idx_end {p : S28 → Bool} {l : List S28} {k : Nat} (hk : l.length ≤ k) : idxOf p (l.drop k) k = -1 := by
  rw [List.drop_eq_nil_of_le hk]; rfl

/-- What a closure over attributes is asked: from world w on it tells p, whatever was laid since. -/
def Tells (g : Nat) (lb : Array Value) (p : S28 → Bool) (w : World) : Prop :=
  ∀ (x : S28) (W : World), Below w.heap.size w W → Calls Try.prog g (#[.agg #[.string x.f0, .string x.f1]] ++ lb) W fun e w' => e = .returned (.bool (p x)) ∧ Below W.heap.size W w'

set_option maxHeartbeats 2000000 in
set_option maxRecDepth 100000 in
theorem indexFunc_calls (g : Nat) (lb : Array Value) (eg : ∀ args w, (callFunc g args).run Try.prog w = .ok (.enter g args) w) (p : S28 → Bool) (A0 : Option Addr) (c0 : Nat) (l0 : List S28) (w : World)
    (hr0 : Kd.C k28 w A0 l0.length l0) (hl : l0.length < 4398046511104) (hcl : Tells g lb p w) :
    Calls Try.prog 48 #[.slice A0 l0.length c0, .func (.func g) #[] lb] w fun e w' => e = .returned (.int .i64 (idxOf p l0 0)) ∧ Below w.heap.size w w' := by
  have hu28 := Try.underlying28
  have HR0 := Aside0.mk hr0
  have HL : (l0.length : Int) < 4398046511104 := by omega
  have HCL := Aside0.mk hcl
  clear hr0 hl hcl
  go_enter Try.func48, Try.ntmps48
  go_wp2
  go_loopg [5, 8] l0.length (fun gg _ s8 wr => ∃ kk : Nat, kk ≤ l0.length ∧ l0.length - kk ≤ gg ∧ s8 = .int .i64 kk ∧ Aside0 (Below w.heap.size w wr) ∧ Aside0 (idxOf p (l0.drop kk) kk = idxOf p l0 0))
  case atStart => exact ⟨0, Nat.zero_le _, by omega, rfl, ⟨Below.refl _ w⟩, ⟨rfl⟩⟩
  case round =>
    obtain ⟨kk, hkk, hg, rfl, BW, HA⟩ := hrel
    by_cases hlt : kk < l0.length
    · have hltz : (kk : Int) < (l0.length : Int) := by omega
      have p157 : (0 : Int) ≤ (kk : Int) := by omega
      obtain ⟨ad, e157, hx0, hx1⟩ := at_T28 HR0.out (kk : Int) p157 hltz
      cases e157
      replace hx0 := (BW.out.cell (World.block_lt_of_cell? w _ hx0)).trans hx0
      replace hx1 := (BW.out.cell (World.block_lt_of_cell? w _ hx1)).trans hx1
      simp only [Int.toNat_natCast] at hx0 hx1
      have hcall := HCL.out (rd_T28 l0 (kk : Int)) wr BW.out
      have B := idx_hit (p := p) hlt
      have B2 := idx_miss (p := p) hlt
      replace B := Aside0.mk B
      replace B2 := Aside0.mk B2
      generalize hy : rd_T28 l0 (kk : Int) = y at hx0 hx1 hcall B B2
      clear hy
      cases hq : p y with
      | true =>
        rw [hq] at hcall
        have E := Aside0.mk (HA.out.symm.trans (B.out hq))
        clear B B2 hq HA
        have HC := Aside0.mk hcall
        clear hcall
        go_wp2_with (go_at_fn g; refine HC.out.mono ?_; rintro e w' ⟨rfl, hb'⟩)
        go_ret
        exact ⟨by rw [E.out]; rfl, BW.out.trans (hb'.mono BW.out.size)⟩
      | false =>
        rw [hq] at hcall
        have E := Aside0.mk ((B2.out hq).symm.trans HA.out)
        clear B B2 hq HA
        have HC := Aside0.mk hcall
        clear hcall
        go_wp2_with (go_at_fn g; refine HC.out.mono ?_; rintro e w' ⟨rfl, hb'⟩)
        go_roundg (l0.length - (kk + 1))
        case measure => omega
        case rel => exact ⟨kk + 1, by omega, by omega, by go_num, ⟨BW.out.trans (hb'.mono BW.out.size)⟩, E⟩
    · have hltz : ¬ (kk : Int) < (l0.length : Int) := by omega
      have E := Aside0.mk (HA.out.symm.trans (idx_end (p := p) (by omega)))
      clear HA
      go_wp2
      go_ret
      exact ⟨by rw [E.out]; rfl, BW.out⟩

/-- The closure of Get: is an attribute's name the one in the box? -/
theorem get1_tells (n : ByteArray) (B : Nat) (w : World) (hB : B < w.heap.size) (hcell : w.cell? ⟨B, 0, none⟩ = some (.string n)) :
    Tells 49 #[.pointer (some ⟨B, 0, none⟩)] (fun a => a.f0.toList == n.toList) w := fun x W hb => by
  have hc : W.cell? ⟨B, 0, none⟩ = some (.string n) := (hb.cell (p := ⟨B, 0, none⟩) hB).trans hcell
  have hBW : B < W.heap.size := Nat.lt_of_lt_of_le hB hb.size
  have hne : B ≠ W.heap.size := by omega
  clear hcell hb hB
  show Calls Try.prog 49 #[.agg #[.string x.f0, .string x.f1], .pointer (some ⟨B, 0, none⟩)] W _
  go_enter Try.func49, Try.ntmps49
  go_wp2
  all_goals (go_ret; exact ⟨rfl, (Below.refl _ _).alloc (Nat.le_refl _) _⟩)

/-- The closure of Without. -/
theorem without1_tells (n : ByteArray) (B : Nat) (w : World) (hB : B < w.heap.size) (hcell : w.cell? ⟨B, 0, none⟩ = some (.string n)) :
    Tells 52 #[.pointer (some ⟨B, 0, none⟩)] (fun a => a.f0.toList == n.toList) w := fun x W hb => by
  have hc : W.cell? ⟨B, 0, none⟩ = some (.string n) := (hb.cell (p := ⟨B, 0, none⟩) hB).trans hcell
  have hBW : B < W.heap.size := Nat.lt_of_lt_of_le hB hb.size
  have hne : B ≠ W.heap.size := by omega
  clear hcell hb hB
  show Calls Try.prog 52 #[.agg #[.string x.f0, .string x.f1], .pointer (some ⟨B, 0, none⟩)] W _
  go_enter Try.func52, Try.ntmps52
  go_wp2
  all_goals (go_ret; exact ⟨rfl, (Below.refl _ _).alloc (Nat.le_refl _) _⟩)

theorem enters49 : ∀ args w, (callFunc 49 args).run Try.prog w = .ok (.enter 49 args) w := enters_of Try.func49 (by kernel_rfl) rfl
theorem enters52 : ∀ args w, (callFunc 52 args).run Try.prog w = .ok (.enter 52 args) w := enters_of Try.func52 (by kernel_rfl) rfl

theorem idx_lo (p : S28 → Bool) : ∀ (l : List S28) (k : Nat), idxOf p l k = -1 ∨ (k : Int) ≤ idxOf p l k
  | [], _ => .inl rfl
  | x :: l, k => by
    unfold idxOf
    split
    · exact .inr (by omega)
    · rcases idx_lo p l (k + 1) with h | h
      · exact .inl h
      · exact .inr (by omega)

/-- The first attribute of a name: its value. -/
def getOf (l : List S28) (n : ByteArray) : ByteArray × Bool := match l.find? (fun a => a.f0.toList == n.toList) with
  | none => (⟨#[]⟩, false)
  | some a => (a.f1, true)

theorem idx_find (p : S28 → Bool) : ∀ (l : List S28) (k : Nat), (l.find? p = none ∧ idxOf p l k = -1) ∨ ∃ j : Nat, j < l.length ∧ idxOf p l k = ((k + j : Nat) : Int) ∧ l.find? p = some (rd_T28 l (j : Int))
  | [], _ => .inl ⟨rfl, rfl⟩
  | x :: l, k => by
    unfold idxOf
    rw [List.find?_cons]
    cases h : p x with
    | true => exact .inr ⟨0, by simp, by simp, by simp [rd_T28]⟩
    | false =>
      rcases idx_find p l (k + 1) with ⟨h1, h2⟩ | ⟨j, h1, h2, h3⟩
      · exact .inl ⟨by simpa using h1, by simpa using h2⟩
      · refine .inr ⟨j + 1, by simp; omega, ?_, ?_⟩
        · rw [if_neg (by simp), h2]; omega
        · simp only [h3]
          simp [rd_T28]

def token_Get.f (l0 : List S28) (a1 : ByteArray) : Option (ByteArray × Bool) := if l0.length < 4398046511104 then some (getOf l0 a1) else none

set_option maxHeartbeats 2000000 in
set_option maxRecDepth 100000 in
theorem token_Get.calls (A0 : Option Addr) (c0 : Nat) (l0 : List S28) (a1 : ByteArray) (r1 : ByteArray) (r2 : Bool) (w : World) (hr0 : Kd.C k28 w A0 l0.length l0) (_hc0 : l0.length ≤ c0) (h : token_Get.f l0 a1 = some (r1, r2)) :
    Calls Try.prog 25 #[.slice A0 l0.length c0, .string a1] w fun e w' => e = .returned (.tuple #[.string r1, .bool r2]) ∧ Below w.heap.size w w' := by
  unfold token_Get.f at h
  by_cases hl : l0.length < 4398046511104
  · rw [if_pos hl] at h
    replace h := Option.some.inj h
    have HR0 := Aside0.mk hr0
    have hcon := indexFunc_calls 49 #[.pointer (some ⟨w.heap.size, 0, none⟩)] enters49 _ A0 c0 l0 (w.alloc (.cells #[.string a1] 9)) (Kd.C_alloc hr0 _) hl (get1_tells a1 w.heap.size _ (by simp) (by simp))
    have hu28 := Try.underlying28
    have HL : (l0.length : Int) < 4398046511104 := by omega
    rcases idx_find (fun a => a.f0.toList == a1.toList) l0 0 with ⟨h1, h2⟩ | ⟨j, h1, h2, h3⟩
    · rw [h2] at hcon
      have hg : getOf l0 a1 = (⟨#[]⟩, false) := by unfold getOf; rw [h1]
      rw [hg] at h
      cases h
      have HC := Aside0.mk hcon
      clear hcon hg h1 h2 hr0 hl
      go_enter Try.func25, Try.ntmps25
      go_wp2_with (go_at_call 48; refine HC.out.mono ?_; rintro e w' ⟨rfl, hb'⟩)
      go_ret2
      exact ⟨rfl, ((Below.refl _ w).alloc (Nat.le_refl _) _).trans (hb'.mono (by simp))⟩
    · rw [h2] at hcon
      have hg : getOf l0 a1 = ((rd_T28 l0 (j : Int)).f1, true) := by unfold getOf; rw [h3]
      rw [hg] at h
      cases h
      simp only [Nat.zero_add] at hcon
      have HC := Aside0.mk hcon
      have hltz : (j : Int) < (l0.length : Int) := by omega
      have p157 : (0 : Int) ≤ (j : Int) := by omega
      obtain ⟨ad, e157, hx0, hx1⟩ := at_T28 hr0 (j : Int) p157 hltz
      cases e157
      clear hx0
      simp only [Int.toNat_natCast] at hx1
      generalize (rd_T28 l0 (j : Int)).f1 = y at hx1
      have HX := Aside0.mk hx1
      clear hcon hg h1 h2 h3 hr0 hl hx1
      go_enter Try.func25, Try.ntmps25
      go_wp2_with fail
      refine HC.out.mono ?_
      rintro e w' ⟨rfl, hb'⟩
      have hb2 := ((Below.refl _ w).alloc (Nat.le_refl _) _).trans (hb'.mono (by simp))
      have hx := (hb2.cell (World.block_lt_of_cell? w _ HX.out)).trans HX.out
      replace hb2 := Aside0.mk hb2
      clear hb'
      have hj0 : decide ((j : Int) < 0) = false := by simp
      clear HL HR0
      go_upto_region 4 with (fail)
      replace p157 := eq_true p157
      replace hltz := eq_true hltz
      clear HX HC
      go_wp2
      go_ret2
      exact ⟨rfl, hb2.out⟩
  · rw [if_neg hl] at h
    cases h

end Go.Proofs.Ytccadgnbomgpcaa.Tk
