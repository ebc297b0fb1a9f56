/- Seat 13: costs and ways, case by case. Plain Lean. -/
import Derived.Test.YtmlpggggahpoaaaS13M
set_option linter.unusedSimpArgs false
set_option linter.unusedVariables false
namespace Go.Eng.S13

section
variable {W H : Int} {g : Nat → Bool} {n : Nat} {k t m : Int}
theorem costE_bad (h : costE W H g n k t ≠ 0) : costV W H g n k t = 0 ∧ wayA W H g n k t m = [] ∧ errW W H g n k t m = costE W H g n k t := by
  have hb : (costE W H g n k t != 0) = true := by simpa [bne] using h
  refine ⟨?_, by unfold wayA; rw [hb]; rfl, by unfold errW; rw [hb]; rfl⟩
  unfold costE at h
  unfold costV
  cases h1 : (errC W H n t != 0) with
  | true => rfl
  | false =>
    rw [h1] at h
    cases h2 : (decide (k < 0) || decide (k ≥ (n : Int))) with
    | true => rfl
    | false =>
      rw [h2] at h
      cases h3 : decide (costs W H g n t k.toNat < 0) with
      | true => rfl
      | false => rw [h3] at h; exact absurd rfl h
theorem costE_may (h : mayL W H n = false) : costE W H g n k t = 1 := by
  have e : errC W H n t = 1 := by unfold errC; rw [h]; rfl
  unfold costE
  rw [e]; rfl
theorem errC_in (h : mayL W H n = true) (ht : 0 ≤ t ∧ t < n) : errC W H n t = 0 := by
  unfold errC
  rw [h, decide_eq_false (by omega), decide_eq_false (by omega)]; rfl
theorem costE_rng (h : mayL W H n = true) (ho : ¬ ((0 ≤ k ∧ k < n) ∧ 0 ≤ t ∧ t < n)) : costE W H g n k t = 4 := by
  unfold costE
  by_cases ht : 0 ≤ t ∧ t < n
  · rw [errC_in h ht]
    have : (decide (k < 0) || decide (k ≥ (n : Int))) = true := by simp; omega
    rw [this]; rfl
  · have : (decide (t < 0) || decide (t ≥ (n : Int))) = true := by simp; omega
    have e : errC W H n t = 4 := by unfold errC; rw [h, this]; rfl
    rw [e]; rfl
theorem costE_none (h : mayL W H n = true) (hk : 0 ≤ k ∧ k < n) (ht : 0 ≤ t ∧ t < n) (hc : costs W H g n t k.toNat < 0) : costE W H g n k t = 6 := by
  unfold costE
  rw [errC_in h ht, decide_eq_false (by omega : ¬ k < 0), decide_eq_false (by omega : ¬ k ≥ (n : Int)), decide_eq_true hc]; rfl
theorem costE_ok (h : mayL W H n = true) (hk : 0 ≤ k ∧ k < n) (ht : 0 ≤ t ∧ t < n) (hc : 0 ≤ costs W H g n t k.toNat) : costE W H g n k t = 0 ∧ costV W H g n k t = costs W H g n t k.toNat := by
  constructor
  · unfold costE
    rw [errC_in h ht, decide_eq_false (by omega : ¬ k < 0), decide_eq_false (by omega : ¬ k ≥ (n : Int)), decide_eq_false (by omega : ¬ costs W H g n t k.toNat < 0)]; rfl
  · unfold costV
    rw [errC_in h ht, decide_eq_false (by omega : ¬ k < 0), decide_eq_false (by omega : ¬ k ≥ (n : Int)), decide_eq_false (by omega : ¬ costs W H g n t k.toNat < 0)]; rfl
theorem way_far (h : costE W H g n k t = 0) (hm : costV W H g n k t > m) : wayA W H g n k t m = [] ∧ errW W H g n k t m = 10 := by
  unfold wayA errW
  rw [h, decide_eq_true hm]; exact ⟨rfl, rfl⟩
theorem way_fine (h : costE W H g n k t = 0) (hm : ¬ costV W H g n k t > m) : wayA W H g n k t m = wayL W H g n k t ∧ errW W H g n k t m = 0 := by
  unfold wayA errW
  rw [h, decide_eq_false hm]; exact ⟨rfl, rfl⟩
/-- A way keeps what it has. -/
theorem wayR_pre {A : Nat → Int} {t : Nat} : ∀ (f k : Nat) (acc : List Int), ∃ r, wayR W H g A t f k acc = acc ++ r
  | 0, k, acc => ⟨[], (List.append_nil _).symm⟩
  | f + 1, k, acc => by
    simp only [wayR]
    cases k == t with
    | true => exact ⟨[], (List.append_nil _).symm⟩
    | false =>
      obtain ⟨r, hr⟩ := wayR_pre f (nxt W H g A k) (acc ++ [(nxt W H g A k : Int)])
      exact ⟨(nxt W H g A k : Int) :: r, by simp only [cond_false]; rw [hr, List.append_assoc]; rfl⟩
theorem wayR_get {A : Nat → Int} {t f k : Nat} {acc L : List Int} (h : wayR W H g A t f k acc = L) {j : Nat} (hj : j < acc.length) : acc.length ≤ L.length ∧ L.getD j 0 = acc.getD j 0 := by
  obtain ⟨r, hr⟩ := wayR_pre (W := W) (H := H) (g := g) (A := A) (t := t) f k acc
  rw [← h, hr]
  refine ⟨by simp, ?_⟩
  rw [List.getD_eq_getElem?_getD, List.getD_eq_getElem?_getD, List.getElem?_append_left hj]
theorem wayR_end {A : Nat → Int} {t f : Nat} {acc : List Int} : wayR W H g A t (f + 1) t acc = acc := by simp [wayR]
theorem wayR_on {A : Nat → Int} {t f k : Nat} {acc : List Int} (h : k ≠ t) : wayR W H g A t (f + 1) k acc = wayR W H g A t f (nxt W H g A k) (acc ++ [(nxt W H g A k : Int)]) := by
  have : (k == t) = false := by simpa using h
  simp only [wayR, this, cond_false]
theorem costs_open {t k : Nat} (h : 0 ≤ costs W H g n t k) : g t = true := by
  cases h1 : g t with
  | true => rfl
  | false =>
    have : costs W H g n t k = -1 := by unfold costs; rw [Int.toNat_natCast, h1]; rfl
    omega
end
end Go.Eng.S13
