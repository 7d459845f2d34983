/-
Contract of slices.ContainsFunc at the test of package wrap: whether some number is negative, or above 64.
-/
import Derived.Test.YtaoajlaocphgdaaDoorPAx0
import Derived.Outline
namespace Go.Proofs.YtaoajlaocphgdaaDoor.PA
open Go.RowKit Go.Proofs.YtaoajlaocphgdaaDoorW.PrintWords Go.Proofs.YtaoajlaocphgdaaDoorW.PrintLast Go.Proofs.YtaoajlaocphgdaaDoorW.PrintMore
set_option linter.unusedVariables false

/-- The test. -/
def badN (n : Int) : Bool := decide (n < 0) || decide (n > 64)
theorem badN_lt {n : Int} (h : n < 0) : badN n = true := by simp [badN, h]
theorem badN_gt {n : Int} (h : n > 64) : badN n = true := by simp [badN, h]
theorem badN_no {n : Int} (h : ¬ n < 0) (h2 : ¬ n > 64) : badN n = false := by simp [badN, h, h2]

theorem bad_calls (n : Int) (w : World) : Calls Tryd.prog 22 #[.int .i64 n] w fun e w' => e = .returned (.bool (badN n)) ∧ w = w' := by
  by_cases h : n < 0
  · rw [badN_lt h]
    go_enter Tryd.func22, Tryd.ntmps22
    go_wp2
    go_ret
    exact ⟨rfl, rfl⟩
  · by_cases h2 : n > 64
    · rw [badN_gt h2]
      go_enter Tryd.func22, Tryd.ntmps22
      go_wp2
      go_ret
      exact ⟨rfl, rfl⟩
    · rw [badN_no h h2]
      go_enter Tryd.func22, Tryd.ntmps22
      go_wp2
      go_ret
      exact ⟨rfl, rfl⟩

/-- The first place from k on whose number fails the test; -1 if there is none. -/
def badAt (l : List Int) : Int := match l.findIdx? badN with | some i => (i : Int) | none => -1

theorem rd_get (l : List Int) (j : Nat) (h : j < l.length) : rd l (j : Int) = l[j] := by
  simp [rd, List.getD_eq_getElem?_getD, List.getElem?_eq_getElem h]
theorem badAt_yes {l : List Int} {k : Nat} (hk : k < l.length) (h : ∀ j, j < k → badN (rd l (j : Int)) = false) (hb : badN (rd l (k : Int)) = true) : badAt l = k := by
  have : l.findIdx? badN = some k := by
    rw [List.findIdx?_eq_some_iff_getElem]
    refine ⟨hk, by rw [← rd_get l k hk]; exact hb, fun j hj => ?_⟩
    rw [← rd_get l j (by omega), h j hj]
    simp
  simp [badAt, this]
theorem badAt_no {l : List Int} (h : ∀ j, j < l.length → badN (rd l (j : Int)) = false) : badAt l = -1 := by
  have : l.findIdx? badN = none := by
    rw [List.findIdx?_eq_none_iff]
    intro x hx
    obtain ⟨j, hj, rfl⟩ := List.getElem_of_mem hx
    rw [← rd_get l j hj]
    exact h j hj
  simp [badAt, this]
theorem any_bad (l : List Int) : decide (0 ≤ badAt l) = l.any badN := by
  unfold badAt
  cases h : l.findIdx? badN with
  | none =>
    rw [List.findIdx?_eq_none_iff] at h
    have : l.any badN = false := by
      rw [List.any_eq_false]
      intro x hx
      simp [h x hx]
    simp [this]
  | some i =>
    obtain ⟨hi, hb, _⟩ := List.findIdx?_eq_some_iff_getElem.1 h
    have : l.any badN = true := List.any_eq_true.2 ⟨_, List.getElem_mem hi, hb⟩
    simp only [this, decide_eq_true_eq]
    omega
theorem index_calls (A0 : Option Addr) (c0 : Nat) (l0 : List Int) (w : World) (hr0 : Kd.C (Kd.int .i64) w A0 l0.length l0) :
    Calls Tryd.prog 41 #[.slice A0 l0.length c0, .func (.func 22) #[] #[]] w fun e w' => e = .returned (.int .i64 (badAt l0)) ∧ w = w' := by
  have hm : l0.length ≤ 9223372036854775807 := hr0.2.1
  have HR := Aside0.mk hr0
  clear hr0
  go_enter Tryd.func41, Tryd.ntmps41
  go_wp2
  go_loop [5, 8] (fun _ i => ∃ k : Nat, k ≤ l0.length ∧ i = .int .i64 k ∧ Aside0 (∀ j, j < k → badN (rd l0 (j : Int)) = false)) (fun _ i => l0.length - (intOf i).toNat)
  case atStart => exact ⟨0, Nat.zero_le _, rfl, ⟨fun j hj => absurd hj (Nat.not_lt_zero j)⟩⟩
  case round =>
    obtain ⟨k, hk, rfl, HJ⟩ := hrel
    by_cases hlt : k < l0.length
    · obtain ⟨ad, rfl, hc⟩ := Kd.at_int HR.out (k : Int) (by omega) (by omega)
      rw [Int.toNat_natCast] at hc
      cases hb : badN (rd l0 (k : Int)) with
      | true =>
        have HY := Aside0.mk (badAt_yes hlt HJ.out hb)
        have HC := Aside0.mk (bad_calls (rd l0 (k : Int)))
        rw [hb] at HC
        clear hb
        go_wp2_with (go_at_call 22; refine (HC.out _).mono ?_; rintro e w' ⟨rfl, rfl⟩)
        go_ret
        exact ⟨by rw [HY.out]; rfl, rfl⟩
      | false =>
        have HN : Aside0 (∀ j, j < k + 1 → badN (rd l0 (j : Int)) = false) := ⟨fun j hj => by
          rcases Nat.lt_succ_iff_lt_or_eq.1 hj with h | h
          · exact HJ.out j h
          · rw [h]; exact hb⟩
        have HC := Aside0.mk (bad_calls (rd l0 (k : Int)))
        rw [hb] at HC
        clear hb
        go_wp2_with (go_at_call 22; refine (HC.out _).mono ?_; rintro e w' ⟨rfl, rfl⟩)
        go_round
        case rel => exact ⟨k + 1, by omega, by go_num, HN⟩
        case measure => simp [intOf]; omega
    · have HY := Aside0.mk (badAt_no (l := l0) fun j hj => HJ.out j (by omega))
      go_wp2
      go_ret
      exact ⟨by rw [HY.out]; rfl, rfl⟩

def slices_ContainsFunc_int_int__22.f (l0 : List Int) : Option Bool := some (l0.any badN)
theorem slices_ContainsFunc_int_int__22.calls (A0 : Option Addr) (c0 : Nat) (l0 : List Int) (r : Bool) (w : World) (hr0 : Kd.C (Kd.int .i64) w A0 l0.length l0) (hc0 : l0.length ≤ c0) (h : slices_ContainsFunc_int_int__22.f l0 = some r) :
    Calls Tryd.prog 21 #[.slice A0 l0.length c0, .func (.func 22) #[] #[]] w fun e w' => e = .returned (.bool r) ∧ Below w.heap.size w w' := by
  have HX := Aside0.mk (index_calls A0 c0 l0 w hr0)
  clear hr0
  obtain rfl := Option.some.inj h
  clear h
  rw [← any_bad]
  go_enter Tryd.func21, Tryd.ntmps21
  go_wp2_with (go_at_call 41; refine HX.out.mono ?_; rintro e w' ⟨rfl, rfl⟩)
  go_ret
  exact ⟨rfl, Below.refl _ _⟩
end Go.Proofs.YtaoajlaocphgdaaDoor.PA
