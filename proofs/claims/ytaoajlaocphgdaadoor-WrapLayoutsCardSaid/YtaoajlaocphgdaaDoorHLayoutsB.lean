/-
Plain: the twenty spoilt layouts may not be.
-/
import Derived.Test.YtaoajlaocphgdaaDoorHLayoutsP
namespace Go.Proofs.YtaoajlaocphgdaaDoor.PA
open Go.RowKit Go.Proofs.YtaoajlaocphgdaaDoorW.PrintWords Go.Proofs.YtaoajlaocphgdaaDoorW.PrintLast Go.Proofs.YtaoajlaocphgdaaDoorW.PrintMore
set_option linter.unusedVariables false

theorem go_at0 (k : Nat) (hk : k ≤ 65535) (last : Int) (hl : last ≤ 65536 + 8 * (k : Int)) (t : List S25) (fin : Bool) : mayGo (⟨65536 + 8 * (k : Int), 81920 + 8 * (k : Int), 0, 0⟩ :: t) last fin = mayGo t (81920 + 8 * (k : Int)) fin :=
  mayGo_ok (8192 + k) (10240 + k) (by simp only []; omega) (by simp only []; omega) (by simp only []; omega) (by simp only []; omega) (by simp only []; omega) (by simp only []; omega)
theorem go_at1 (k : Nat) (hk : k ≤ 65535) (last : Int) (hl : last ≤ 131072 + 8 * (k : Int)) (t : List S25) (fin : Bool) : mayGo (⟨131072 + 8 * (k : Int), 139280 + 8 * (k : Int), 0, 0⟩ :: t) last fin = mayGo t (139280 + 8 * (k : Int)) fin :=
  mayGo_ok (16384 + k) (17410 + k) (by simp only []; omega) (by simp only []; omega) (by simp only []; omega) (by simp only []; omega) (by simp only []; omega) (by simp only []; omega)
theorem go_at2 (k : Nat) (hk : k ≤ 65535) (last : Int) (hl : last ≤ 196608 + 8 * (k : Int)) (t : List S25) (fin : Bool) : mayGo (⟨196608 + 8 * (k : Int), 262144 + 8 * (k : Int), 0, 0⟩ :: t) last fin = mayGo t (262144 + 8 * (k : Int)) fin :=
  mayGo_ok (24576 + k) (32768 + k) (by simp only []; omega) (by simp only []; omega) (by simp only []; omega) (by simp only []; omega) (by simp only []; omega) (by simp only []; omega)
theorem go_at3 (k : Nat) (hk : k ≤ 65535) (last : Int) (hl : last ≤ 262144 + 8 * (k : Int)) (t : List S25) (fin : Bool) : mayGo (⟨262144 + 8 * (k : Int), 262208 + 8 * (k : Int), 0, 0⟩ :: t) last fin = mayGo t (262208 + 8 * (k : Int)) fin :=
  mayGo_ok (32768 + k) (32776 + k) (by simp only []; omega) (by simp only []; omega) (by simp only []; omega) (by simp only []; omega) (by simp only []; omega) (by simp only []; omega)
theorem go_at4 (k : Nat) (hk : k ≤ 65535) (last : Int) (hl : last ≤ 327680 + 8 * (k : Int)) (t : List S25) (fin : Bool) : mayGo (⟨327680 + 8 * (k : Int), 328704 + 8 * (k : Int), 0, 0⟩ :: t) last fin = mayGo t (328704 + 8 * (k : Int)) fin :=
  mayGo_ok (40960 + k) (41088 + k) (by simp only []; omega) (by simp only []; omega) (by simp only []; omega) (by simp only []; omega) (by simp only []; omega) (by simp only []; omega)
theorem bad_0_0 (k : Nat) (hk : k ≤ 65535) : mayL ⟨65536 + 8 * (k : Int) + 4, 81920 + 8 * (k : Int), 0, 0, 131072 + 8 * (k : Int), 139280 + 8 * (k : Int), 0, 0, 196608 + 8 * (k : Int), 262144 + 8 * (k : Int), 0, 0, 262144 + 8 * (k : Int), 262208 + 8 * (k : Int), 0, 0, 327680 + 8 * (k : Int), 328704 + 8 * (k : Int), 0, 0⟩ = false := by
  unfold mayL LayV.regions
  simp only []
  refine mayGo_bad (Or.inr (Or.inr (Or.inr (Or.inl ?_))))
  have h := or4 (8192 + k) (10240 + k) (by omega) (by omega)
  rw [show ((8 * (8192 + k) + 4 : Nat) : Int) = 65536 + 8 * (k : Int) + 4 from by omega, show ((8 * (10240 + k) : Nat) : Int) = 81920 + 8 * (k : Int) from by omega] at h
  exact h
theorem bad_0_1 (k : Nat) (hk : k ≤ 65535) : mayL ⟨65536 + 8 * (k : Int), 81920 + 8 * (k : Int), 0, 0, 131072 + 8 * (k : Int) + 4, 139280 + 8 * (k : Int), 0, 0, 196608 + 8 * (k : Int), 262144 + 8 * (k : Int), 0, 0, 262144 + 8 * (k : Int), 262208 + 8 * (k : Int), 0, 0, 327680 + 8 * (k : Int), 328704 + 8 * (k : Int), 0, 0⟩ = false := by
  unfold mayL LayV.regions
  simp only []
  rw [go_at0 k hk _ (by omega)]
  refine mayGo_bad (Or.inr (Or.inr (Or.inr (Or.inl ?_))))
  have h := or4 (16384 + k) (17410 + k) (by omega) (by omega)
  rw [show ((8 * (16384 + k) + 4 : Nat) : Int) = 131072 + 8 * (k : Int) + 4 from by omega, show ((8 * (17410 + k) : Nat) : Int) = 139280 + 8 * (k : Int) from by omega] at h
  exact h
theorem bad_0_2 (k : Nat) (hk : k ≤ 65535) : mayL ⟨65536 + 8 * (k : Int), 81920 + 8 * (k : Int), 0, 0, 131072 + 8 * (k : Int), 139280 + 8 * (k : Int), 0, 0, 196608 + 8 * (k : Int) + 4, 262144 + 8 * (k : Int), 0, 0, 262144 + 8 * (k : Int), 262208 + 8 * (k : Int), 0, 0, 327680 + 8 * (k : Int), 328704 + 8 * (k : Int), 0, 0⟩ = false := by
  unfold mayL LayV.regions
  simp only []
  rw [go_at0 k hk _ (by omega)]
  rw [go_at1 k hk _ (by omega)]
  refine mayGo_bad (Or.inr (Or.inr (Or.inr (Or.inl ?_))))
  have h := or4 (24576 + k) (32768 + k) (by omega) (by omega)
  rw [show ((8 * (24576 + k) + 4 : Nat) : Int) = 196608 + 8 * (k : Int) + 4 from by omega, show ((8 * (32768 + k) : Nat) : Int) = 262144 + 8 * (k : Int) from by omega] at h
  exact h
theorem bad_0_3 (k : Nat) (hk : k ≤ 65535) : mayL ⟨65536 + 8 * (k : Int), 81920 + 8 * (k : Int), 0, 0, 131072 + 8 * (k : Int), 139280 + 8 * (k : Int), 0, 0, 196608 + 8 * (k : Int), 262144 + 8 * (k : Int), 0, 0, 262144 + 8 * (k : Int) + 4, 262208 + 8 * (k : Int), 0, 0, 327680 + 8 * (k : Int), 328704 + 8 * (k : Int), 0, 0⟩ = false := by
  unfold mayL LayV.regions
  simp only []
  rw [go_at0 k hk _ (by omega)]
  rw [go_at1 k hk _ (by omega)]
  rw [go_at2 k hk _ (by omega)]
  refine mayGo_bad (Or.inr (Or.inr (Or.inr (Or.inl ?_))))
  have h := or4 (32768 + k) (32776 + k) (by omega) (by omega)
  rw [show ((8 * (32768 + k) + 4 : Nat) : Int) = 262144 + 8 * (k : Int) + 4 from by omega, show ((8 * (32776 + k) : Nat) : Int) = 262208 + 8 * (k : Int) from by omega] at h
  exact h
theorem bad_0_4 (k : Nat) (hk : k ≤ 65535) : mayL ⟨65536 + 8 * (k : Int), 81920 + 8 * (k : Int), 0, 0, 131072 + 8 * (k : Int), 139280 + 8 * (k : Int), 0, 0, 196608 + 8 * (k : Int), 262144 + 8 * (k : Int), 0, 0, 262144 + 8 * (k : Int), 262208 + 8 * (k : Int), 0, 0, 327680 + 8 * (k : Int) + 4, 328704 + 8 * (k : Int), 0, 0⟩ = false := by
  unfold mayL LayV.regions
  simp only []
  rw [go_at0 k hk _ (by omega)]
  rw [go_at1 k hk _ (by omega)]
  rw [go_at2 k hk _ (by omega)]
  rw [go_at3 k hk _ (by omega)]
  refine mayGo_bad (Or.inr (Or.inr (Or.inr (Or.inl ?_))))
  have h := or4 (40960 + k) (41088 + k) (by omega) (by omega)
  rw [show ((8 * (40960 + k) + 4 : Nat) : Int) = 327680 + 8 * (k : Int) + 4 from by omega, show ((8 * (41088 + k) : Nat) : Int) = 328704 + 8 * (k : Int) from by omega] at h
  exact h
theorem bad_1_0 (k : Nat) (hk : k ≤ 65535) : mayL ⟨65536 + 8 * (k : Int), 65536 + 8 * (k : Int), 0, 0, 131072 + 8 * (k : Int), 139280 + 8 * (k : Int), 0, 0, 196608 + 8 * (k : Int), 262144 + 8 * (k : Int), 0, 0, 262144 + 8 * (k : Int), 262208 + 8 * (k : Int), 0, 0, 327680 + 8 * (k : Int), 328704 + 8 * (k : Int), 0, 0⟩ = false := by
  unfold mayL LayV.regions
  simp only []
  exact mayGo_bad (Or.inr (Or.inl (by simp only []; omega)))
theorem bad_1_1 (k : Nat) (hk : k ≤ 65535) : mayL ⟨65536 + 8 * (k : Int), 81920 + 8 * (k : Int), 0, 0, 131072 + 8 * (k : Int), 131072 + 8 * (k : Int), 0, 0, 196608 + 8 * (k : Int), 262144 + 8 * (k : Int), 0, 0, 262144 + 8 * (k : Int), 262208 + 8 * (k : Int), 0, 0, 327680 + 8 * (k : Int), 328704 + 8 * (k : Int), 0, 0⟩ = false := by
  unfold mayL LayV.regions
  simp only []
  rw [go_at0 k hk _ (by omega)]
  exact mayGo_bad (Or.inr (Or.inl (by simp only []; omega)))
theorem bad_1_2 (k : Nat) (hk : k ≤ 65535) : mayL ⟨65536 + 8 * (k : Int), 81920 + 8 * (k : Int), 0, 0, 131072 + 8 * (k : Int), 139280 + 8 * (k : Int), 0, 0, 196608 + 8 * (k : Int), 196608 + 8 * (k : Int), 0, 0, 262144 + 8 * (k : Int), 262208 + 8 * (k : Int), 0, 0, 327680 + 8 * (k : Int), 328704 + 8 * (k : Int), 0, 0⟩ = false := by
  unfold mayL LayV.regions
  simp only []
  rw [go_at0 k hk _ (by omega)]
  rw [go_at1 k hk _ (by omega)]
  exact mayGo_bad (Or.inr (Or.inl (by simp only []; omega)))
theorem bad_1_3 (k : Nat) (hk : k ≤ 65535) : mayL ⟨65536 + 8 * (k : Int), 81920 + 8 * (k : Int), 0, 0, 131072 + 8 * (k : Int), 139280 + 8 * (k : Int), 0, 0, 196608 + 8 * (k : Int), 262144 + 8 * (k : Int), 0, 0, 262144 + 8 * (k : Int), 262144 + 8 * (k : Int), 0, 0, 327680 + 8 * (k : Int), 328704 + 8 * (k : Int), 0, 0⟩ = false := by
  unfold mayL LayV.regions
  simp only []
  rw [go_at0 k hk _ (by omega)]
  rw [go_at1 k hk _ (by omega)]
  rw [go_at2 k hk _ (by omega)]
  exact mayGo_bad (Or.inr (Or.inl (by simp only []; omega)))
theorem bad_1_4 (k : Nat) (hk : k ≤ 65535) : mayL ⟨65536 + 8 * (k : Int), 81920 + 8 * (k : Int), 0, 0, 131072 + 8 * (k : Int), 139280 + 8 * (k : Int), 0, 0, 196608 + 8 * (k : Int), 262144 + 8 * (k : Int), 0, 0, 262144 + 8 * (k : Int), 262208 + 8 * (k : Int), 0, 0, 327680 + 8 * (k : Int), 327680 + 8 * (k : Int), 0, 0⟩ = false := by
  unfold mayL LayV.regions
  simp only []
  rw [go_at0 k hk _ (by omega)]
  rw [go_at1 k hk _ (by omega)]
  rw [go_at2 k hk _ (by omega)]
  rw [go_at3 k hk _ (by omega)]
  exact mayGo_bad (Or.inr (Or.inl (by simp only []; omega)))
theorem bad_2_0 (k : Nat) (hk : k ≤ 65535) : mayL ⟨65536 + 8 * (k : Int), 65536 + 8 * (k : Int) + 65544, 0, 0, 131072 + 8 * (k : Int), 139280 + 8 * (k : Int), 0, 0, 196608 + 8 * (k : Int), 262144 + 8 * (k : Int), 0, 0, 262144 + 8 * (k : Int), 262208 + 8 * (k : Int), 0, 0, 327680 + 8 * (k : Int), 328704 + 8 * (k : Int), 0, 0⟩ = false := by
  unfold mayL LayV.regions
  simp only []
  exact mayGo_bad (Or.inr (Or.inr (Or.inr (Or.inr (by simp only []; rw [show 65536 + 8 * (k : Int) + 65544 - (65536 + 8 * (k : Int)) = 65544 from by omega]; decide)))))
theorem bad_2_1 (k : Nat) (hk : k ≤ 65535) : mayL ⟨65536 + 8 * (k : Int), 81920 + 8 * (k : Int), 0, 0, 131072 + 8 * (k : Int), 131072 + 8 * (k : Int) + 65544, 0, 0, 196608 + 8 * (k : Int), 262144 + 8 * (k : Int), 0, 0, 262144 + 8 * (k : Int), 262208 + 8 * (k : Int), 0, 0, 327680 + 8 * (k : Int), 328704 + 8 * (k : Int), 0, 0⟩ = false := by
  unfold mayL LayV.regions
  simp only []
  rw [go_at0 k hk _ (by omega)]
  exact mayGo_bad (Or.inr (Or.inr (Or.inr (Or.inr (by simp only []; rw [show 131072 + 8 * (k : Int) + 65544 - (131072 + 8 * (k : Int)) = 65544 from by omega]; decide)))))
theorem bad_2_2 (k : Nat) (hk : k ≤ 65535) : mayL ⟨65536 + 8 * (k : Int), 81920 + 8 * (k : Int), 0, 0, 131072 + 8 * (k : Int), 139280 + 8 * (k : Int), 0, 0, 196608 + 8 * (k : Int), 196608 + 8 * (k : Int) + 65544, 0, 0, 262144 + 8 * (k : Int), 262208 + 8 * (k : Int), 0, 0, 327680 + 8 * (k : Int), 328704 + 8 * (k : Int), 0, 0⟩ = false := by
  unfold mayL LayV.regions
  simp only []
  rw [go_at0 k hk _ (by omega)]
  rw [go_at1 k hk _ (by omega)]
  exact mayGo_bad (Or.inr (Or.inr (Or.inr (Or.inr (by simp only []; rw [show 196608 + 8 * (k : Int) + 65544 - (196608 + 8 * (k : Int)) = 65544 from by omega]; decide)))))
theorem bad_2_3 (k : Nat) (hk : k ≤ 65535) : mayL ⟨65536 + 8 * (k : Int), 81920 + 8 * (k : Int), 0, 0, 131072 + 8 * (k : Int), 139280 + 8 * (k : Int), 0, 0, 196608 + 8 * (k : Int), 262144 + 8 * (k : Int), 0, 0, 262144 + 8 * (k : Int), 262144 + 8 * (k : Int) + 65544, 0, 0, 327680 + 8 * (k : Int), 328704 + 8 * (k : Int), 0, 0⟩ = false := by
  unfold mayL LayV.regions
  simp only []
  rw [go_at0 k hk _ (by omega)]
  rw [go_at1 k hk _ (by omega)]
  rw [go_at2 k hk _ (by omega)]
  exact mayGo_bad (Or.inr (Or.inr (Or.inr (Or.inr (by simp only []; rw [show 262144 + 8 * (k : Int) + 65544 - (262144 + 8 * (k : Int)) = 65544 from by omega]; decide)))))
theorem bad_2_4 (k : Nat) (hk : k ≤ 65535) : mayL ⟨65536 + 8 * (k : Int), 81920 + 8 * (k : Int), 0, 0, 131072 + 8 * (k : Int), 139280 + 8 * (k : Int), 0, 0, 196608 + 8 * (k : Int), 262144 + 8 * (k : Int), 0, 0, 262144 + 8 * (k : Int), 262208 + 8 * (k : Int), 0, 0, 327680 + 8 * (k : Int), 327680 + 8 * (k : Int) + 65544, 0, 0⟩ = false := by
  unfold mayL LayV.regions
  simp only []
  rw [go_at0 k hk _ (by omega)]
  rw [go_at1 k hk _ (by omega)]
  rw [go_at2 k hk _ (by omega)]
  rw [go_at3 k hk _ (by omega)]
  exact mayGo_bad (Or.inr (Or.inr (Or.inr (Or.inr (by simp only []; rw [show 327680 + 8 * (k : Int) + 65544 - (327680 + 8 * (k : Int)) = 65544 from by omega]; decide)))))
theorem bad_3_0 (k : Nat) (hk : k ≤ 65535) : mayL ⟨81920 + 8 * (k : Int), 65536 + 8 * (k : Int), 0, 0, 131072 + 8 * (k : Int), 139280 + 8 * (k : Int), 0, 0, 196608 + 8 * (k : Int), 262144 + 8 * (k : Int), 0, 0, 262144 + 8 * (k : Int), 262208 + 8 * (k : Int), 0, 0, 327680 + 8 * (k : Int), 328704 + 8 * (k : Int), 0, 0⟩ = false := by
  unfold mayL LayV.regions
  simp only []
  exact mayGo_bad (Or.inr (Or.inl (by simp only []; omega)))
theorem bad_3_1 (k : Nat) (hk : k ≤ 65535) : mayL ⟨65536 + 8 * (k : Int), 81920 + 8 * (k : Int), 0, 0, 139280 + 8 * (k : Int), 131072 + 8 * (k : Int), 0, 0, 196608 + 8 * (k : Int), 262144 + 8 * (k : Int), 0, 0, 262144 + 8 * (k : Int), 262208 + 8 * (k : Int), 0, 0, 327680 + 8 * (k : Int), 328704 + 8 * (k : Int), 0, 0⟩ = false := by
  unfold mayL LayV.regions
  simp only []
  rw [go_at0 k hk _ (by omega)]
  exact mayGo_bad (Or.inr (Or.inl (by simp only []; omega)))
theorem bad_3_2 (k : Nat) (hk : k ≤ 65535) : mayL ⟨65536 + 8 * (k : Int), 81920 + 8 * (k : Int), 0, 0, 131072 + 8 * (k : Int), 139280 + 8 * (k : Int), 0, 0, 262144 + 8 * (k : Int), 196608 + 8 * (k : Int), 0, 0, 262144 + 8 * (k : Int), 262208 + 8 * (k : Int), 0, 0, 327680 + 8 * (k : Int), 328704 + 8 * (k : Int), 0, 0⟩ = false := by
  unfold mayL LayV.regions
  simp only []
  rw [go_at0 k hk _ (by omega)]
  rw [go_at1 k hk _ (by omega)]
  exact mayGo_bad (Or.inr (Or.inl (by simp only []; omega)))
theorem bad_3_3 (k : Nat) (hk : k ≤ 65535) : mayL ⟨65536 + 8 * (k : Int), 81920 + 8 * (k : Int), 0, 0, 131072 + 8 * (k : Int), 139280 + 8 * (k : Int), 0, 0, 196608 + 8 * (k : Int), 262144 + 8 * (k : Int), 0, 0, 262208 + 8 * (k : Int), 262144 + 8 * (k : Int), 0, 0, 327680 + 8 * (k : Int), 328704 + 8 * (k : Int), 0, 0⟩ = false := by
  unfold mayL LayV.regions
  simp only []
  rw [go_at0 k hk _ (by omega)]
  rw [go_at1 k hk _ (by omega)]
  rw [go_at2 k hk _ (by omega)]
  exact mayGo_bad (Or.inr (Or.inl (by simp only []; omega)))
theorem bad_3_4 (k : Nat) (hk : k ≤ 65535) : mayL ⟨65536 + 8 * (k : Int), 81920 + 8 * (k : Int), 0, 0, 131072 + 8 * (k : Int), 139280 + 8 * (k : Int), 0, 0, 196608 + 8 * (k : Int), 262144 + 8 * (k : Int), 0, 0, 262144 + 8 * (k : Int), 262208 + 8 * (k : Int), 0, 0, 328704 + 8 * (k : Int), 327680 + 8 * (k : Int), 0, 0⟩ = false := by
  unfold mayL LayV.regions
  simp only []
  rw [go_at0 k hk _ (by omega)]
  rw [go_at1 k hk _ (by omega)]
  rw [go_at2 k hk _ (by omega)]
  rw [go_at3 k hk _ (by omega)]
  exact mayGo_bad (Or.inr (Or.inl (by simp only []; omega)))
end Go.Proofs.YtaoajlaocphgdaaDoor.PA
