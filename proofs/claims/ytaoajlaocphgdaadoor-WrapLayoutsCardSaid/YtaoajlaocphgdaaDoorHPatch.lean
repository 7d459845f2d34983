/-
Filling in how far each instruction goes: whatever order the map's entries are gone through in, all are filled in in the end.
-/
import Derived.Test.YtaoajlaocphgdaaDoorHMaker2
namespace Go.Proofs.YtaoajlaocphgdaaDoor.PA
open Go.RowKit Go.Proofs.YtaoajlaocphgdaaDoorW.PrintWords
set_option linter.unusedVariables false

/-- An instruction with how far it goes. -/
def patchI (P : Int → Int) (i : Int) (x : InsP) : S43 := if x.2 = 0 then x.1 else { x.1 with f4 := 4 * (P x.2 - i) }
def finalL (P : Int → Int) : List InsP → Int → List S43
  | [], _ => []
  | x :: r, i => patchI P i x :: finalL P r (i + 1)
theorem finalL_get (P : Int → Int) (st : List InsP) (i : Int) (n : Nat) : (finalL P st i)[n]? = (st[n]?).map fun x => patchI P (i + n) x := by
  induction st generalizing i n with
  | nil => rfl
  | cons x r ih =>
    cases n with
    | zero => simp [finalL]
    | succ n => simp only [finalL, List.getElem?_cons_succ, ih]; rw [show i + 1 + (n : Int) = i + ((n + 1 : Nat) : Int) from by omega]
theorem finalL_length (P : Int → Int) (st : List InsP) (i : Int) : (finalL P st i).length = st.length := by
  induction st generalizing i with
  | nil => rfl
  | cons x r ih => simp [finalL, ih]
theorem goesOf_mem {st : List InsP} {i : Int} {y : Int × Int} (h : y ∈ goesOf st i) : ∃ (n : Nat) (x : S43), y.1 = i + n ∧ st[n]? = some (x, y.2) ∧ y.2 ≠ 0 := by
  induction st generalizing i with
  | nil => cases h
  | cons x r ih =>
    simp only [goesOf] at h
    split at h
    · obtain ⟨n, z, h1, h2, h3⟩ := ih h
      exact ⟨n + 1, z, by omega, by simpa using h2, h3⟩
    · rename_i hx
      rcases List.mem_cons.1 h with rfl | h
      · exact ⟨0, x.1, by simp, by simp, hx⟩
      · obtain ⟨n, z, h1, h2, h3⟩ := ih h
        exact ⟨n + 1, z, by omega, by simpa using h2, h3⟩
theorem mem_goesOf {st : List InsP} {i : Int} {n : Nat} {x : InsP} (h : st[n]? = some x) (hx : x.2 ≠ 0) : (i + (n : Int), x.2) ∈ goesOf st i := by
  induction st generalizing i n with
  | nil => cases h
  | cons y r ih =>
    simp only [goesOf]
    cases n with
    | zero =>
      obtain rfl := Option.some.inj h
      rw [if_neg hx]
      simp
    | succ n =>
      have := ih (i := i + 1) (n := n) (by simpa using h)
      rw [show i + 1 + (n : Int) = i + ((n + 1 : Nat) : Int) from by omega] at this
      split
      · exact this
      · exact List.mem_cons_of_mem _ this

open Classical in
/-- Those that have been gone through are filled in, the others are not. -/
noncomputable def Patched (st : List InsP) (P : Int → Int) (seen : List Nat) (code : List S43) : Prop :=
  code.length = st.length ∧ ∀ (i : Nat) (x : InsP), st[i]? = some x → code[i]? = some (if ∃ j ∈ seen, (goesOf st 0)[j]? = some ((i : Int), x.2) then patchI P i x else x.1)
theorem Patched.start (st : List InsP) (P : Int → Int) : Patched st P [] (st.map (·.1)) := by
  refine ⟨List.length_map _, fun i x hx => ?_⟩
  rw [if_neg (by rintro ⟨j, hj, _⟩; cases hj), List.getElem?_map, hx]
  rfl
theorem Patched.at_ {st : List InsP} {P : Int → Int} {seen : List Nat} {code : List S43} (h : Patched st P seen code) {j : Nat} {y : Int × Int} (hy : (goesOf st 0)[j]? = some y) :
    0 ≤ y.1 ∧ y.1 < code.length ∧ y.2 ≠ 0 ∧ ∃ x, st[y.1.toNat]? = some (x, y.2) := by
  obtain ⟨n, x, h1, h2, h3⟩ := goesOf_mem (List.mem_of_getElem? hy)
  have hn : n < st.length := (List.getElem?_eq_some_iff.1 h2).1
  rw [h.1]
  exact ⟨by omega, by omega, h3, x, by rw [h1, Int.zero_add, Int.toNat_natCast]; exact h2⟩
theorem Patched.step {st : List InsP} {P : Int → Int} {seen : List Nat} {code : List S43} (h : Patched st P seen code) {j : Nat} {y : Int × Int} (hy : (goesOf st 0)[j]? = some y) (hj : j ∉ seen) (c : S43) (hc : code[y.1.toNat]? = some c) :
    Patched st P (seen ++ [j]) (code.set y.1.toNat { c with f4 := 4 * (P y.2 - y.1) }) := by
  obtain ⟨h0, h1, h2, x, hx⟩ := h.at_ hy
  refine ⟨by rw [List.length_set]; exact h.1, fun i z hz => ?_⟩
  rw [List.getElem?_set]
  by_cases hi : y.1.toNat = i
  · subst hi
    rw [hz] at hx
    obtain rfl := Option.some.inj hx
    have hyi : ((y.1.toNat : Nat) : Int) = y.1 := by omega
    rw [if_pos rfl, if_pos (by omega), if_pos ⟨j, by simp, by rw [hy, hyi]⟩]
    have hcx := h.2 _ _ hz
    rw [hc] at hcx
    have hcx := Option.some.inj hcx
    simp only [patchI, h2, if_false, hyi]
    split at hcx
    · rw [hcx]; simp only [patchI, h2, if_false]
    · rw [hcx]
  · rw [if_neg hi, h.2 i z hz]
    congr 1
    have he : (∃ j' ∈ seen ++ [j], (goesOf st 0)[j']? = some ((i : Int), z.2)) ↔ ∃ j' ∈ seen, (goesOf st 0)[j']? = some ((i : Int), z.2) := by
      constructor
      · rintro ⟨j', hj', he⟩
        rcases List.mem_append.1 hj' with hj' | hj'
        · exact ⟨j', hj', he⟩
        · obtain rfl := List.mem_singleton.1 hj'
          rw [hy] at he
          have := congrArg Prod.fst (Option.some.inj he)
          simp only at this
          omega
      · rintro ⟨j', hj', he⟩
        exact ⟨j', List.mem_append_left _ hj', he⟩
    simp only [he]
theorem Patched.done {st : List InsP} {P : Int → Int} {seen : List Nat} {code : List S43} (h : Patched st P seen code) (hall : ∀ j, j < (goesOf st 0).length → j ∈ seen) : code = finalL P st 0 := by
  apply List.ext_getElem?
  intro i
  rw [finalL_get]
  cases hx : st[i]? with
  | none =>
    have : st.length ≤ i := List.getElem?_eq_none_iff.1 hx
    rw [List.getElem?_eq_none (by rw [h.1]; exact this)]
    rfl
  | some x =>
    rw [h.2 i x hx]
    simp only [Option.map_some, Int.zero_add]
    by_cases h2 : x.2 = 0
    · simp only [patchI, h2, if_true]
      split <;> rfl
    · have hm := mem_goesOf (i := 0) hx h2
      obtain ⟨j, hj, hje⟩ := List.getElem_of_mem hm
      rw [if_pos ⟨j, hall j hj, by rw [List.getElem?_eq_getElem hj, hje, Int.zero_add]⟩]
end Go.Proofs.YtaoajlaocphgdaaDoor.PA
