/- Seat top, land: what a hit leaves of a map. Plain Lean. -/
import Derived.Test.YthfpdhhnokhldaaS27G
set_option linter.unusedSimpArgs false
set_option linter.unusedVariables false
namespace Go.Eng.S27

def w1 (W : Int) : Nat := (W + 1).toNat
def rwI (W : Int) (k : Nat) : Int := ((k / w1 W : Nat) : Int)
def clI (W : Int) (k : Nat) : Int := ((k % w1 W : Nat) : Int)
def boxB (W : Int) (h : Hit) (k : Nat) : Bool := decide (h.i - h.r ≤ clI W k) && decide (clI W k ≤ h.i + h.r) && decide (h.j - h.r ≤ rwI W k) && decide (rwI W k ≤ h.j + h.r)
def stV (W : Int) (h : Hit) (u : Nat → Int) (k : Nat) : Int := mx2 0 (u k - lowers h (clI W k) (rwI W k))
/-- What is done when a row, and a part of one, is. -/
def stP (W : Int) (h : Hit) (u : Nat → Int) (j i : Int) (k : Nat) : Int := bif boxB W h k && (decide (rwI W k < j) || decide (rwI W k = j) && decide (clI W k < i)) then stV W h u k else u k
def st1 (W : Int) (h : Hit) (u : Nat → Int) (k : Nat) : Int := bif boxB W h k then stV W h u k else u k
def stN (W : Int) (q : Nat → Hit) (u : Nat → Int) : Nat → Nat → Int
  | 0 => u
  | n + 1 => st1 W (q n) (stN W q u n)
theorem boxB_get {W : Int} {h : Hit} {k : Nat} (e : boxB W h k = true) : h.i - h.r ≤ clI W k ∧ clI W k ≤ h.i + h.r ∧ h.j - h.r ≤ rwI W k ∧ rwI W k ≤ h.j + h.r := by
  unfold boxB at e
  simp only [Bool.and_eq_true, decide_eq_true_eq] at e
  exact ⟨e.1.1.1, e.1.1.2, e.1.2, e.2⟩
theorem cell_rng {W : Int} (hW : 0 ≤ W) (k : Nat) : 0 ≤ rwI W k ∧ 0 ≤ clI W k ∧ clI W k ≤ W ∧ (k : Int) = (W + 1) * rwI W k + clI W k := by
  have h1 : 0 < w1 W := by unfold w1; omega
  have h2 := Nat.mod_lt k h1
  have h3 := Nat.div_add_mod k (w1 W)
  have h4 : ((w1 W : Nat) : Int) = W + 1 := by unfold w1; omega
  unfold rwI clI
  have h5 : ((k % w1 W : Nat) : Int) < ((w1 W : Nat) : Int) := Int.ofNat_lt.2 h2
  refine ⟨Int.natCast_nonneg _, Int.natCast_nonneg _, ?_, ?_⟩
  · rw [h4] at h5; exact Int.lt_add_one_iff.1 h5
  · rw [← h4, ← Int.natCast_mul, ← Int.natCast_add, h3]
theorem cell_at {W i j : Int} (hW : 0 ≤ W) (hi : 0 ≤ i ∧ i ≤ W) (hj : 0 ≤ j) : rwI W ((W + 1) * j + i).toNat = j ∧ clI W ((W + 1) * j + i).toNat = i := by
  obtain ⟨i, rfl⟩ := Int.eq_ofNat_of_zero_le hi.1
  obtain ⟨j, rfl⟩ := Int.eq_ofNat_of_zero_le hj
  obtain ⟨W, rfl⟩ := Int.eq_ofNat_of_zero_le hW
  have e : ((W : Int) + 1) * (j : Int) + (i : Int) = (((W + 1) * j + i : Nat) : Int) := by rw [Int.natCast_add, Int.natCast_mul]; rfl
  rw [e, Int.toNat_natCast]
  have hi2 : i < W + 1 := by omega
  unfold rwI clI
  have e2 : w1 (W : Int) = W + 1 := rfl
  rw [e2]
  refine ⟨?_, ?_⟩
  · rw [Nat.mul_add_div (by omega), Nat.div_eq_of_lt hi2, Nat.add_zero]
  · rw [Nat.mul_add_mod, Nat.mod_eq_of_lt hi2]
theorem cell_inj {W i j : Int} (hW : 0 ≤ W) (hi : 0 ≤ i ∧ i ≤ W) (hj : 0 ≤ j) {k : Nat} (h1 : rwI W k = j) (h2 : clI W k = i) : k = ((W + 1) * j + i).toNat := by
  obtain ⟨a, b, c, d⟩ := cell_rng hW k
  rw [h1, h2] at d
  omega
theorem stP_start {W : Int} {h : Hit} {u : Nat → Int} (hW : 0 ≤ W) (k : Nat) : stP W h u (mx2 0 (h.j - h.r)) (mx2 0 (h.i - h.r)) k = u k := by
  unfold stP
  cases e : boxB W h k with
  | false => rfl
  | true =>
    obtain ⟨b1, b2, b3, b4⟩ := boxB_get e
    obtain ⟨c1, c2, c3, c4⟩ := cell_rng hW k
    have h1 : ¬ rwI W k < mx2 0 (h.j - h.r) := by unfold mx2; split <;> omega
    have h2 : ¬ clI W k < mx2 0 (h.i - h.r) := by unfold mx2; split <;> omega
    rw [decide_eq_false h1, decide_eq_false h2]
    simp
theorem stP_cell {W : Int} {h : Hit} {u : Nat → Int} {i j : Int} (hW : 0 ≤ W) (hi : 0 ≤ i ∧ i ≤ W) (hj : 0 ≤ j) : stP W h u j i ((W + 1) * j + i).toNat = u ((W + 1) * j + i).toNat := by
  obtain ⟨h1, h2⟩ := cell_at hW hi hj
  unfold stP
  rw [h1, h2, decide_eq_false (Int.lt_irrefl j), decide_eq_false (Int.lt_irrefl i)]
  simp
theorem stP_step {W : Int} {h : Hit} {u : Nat → Int} {i j : Int} (hW : 0 ≤ W) (hi : 0 ≤ i ∧ i ≤ W) (hj : 0 ≤ j) (hi2 : h.i - h.r ≤ i ∧ i ≤ h.i + h.r) (hj2 : h.j - h.r ≤ j ∧ j ≤ h.j + h.r) (k : Nat) :
    stP W h u j (i + 1) k = bif k == ((W + 1) * j + i).toNat then stV W h u k else stP W h u j i k := by
  obtain ⟨h1, h2⟩ := cell_at hW hi hj
  by_cases e : k = ((W + 1) * j + i).toNat
  · subst e
    have hb : boxB W h ((W + 1) * j + i).toNat = true := by
      unfold boxB
      rw [h1, h2]
      simp only [Bool.and_eq_true, decide_eq_true_eq]
      exact ⟨⟨hi2, hj2.1⟩, hj2.2⟩
    unfold stP
    rw [hb, h1, h2, decide_eq_true (by omega : i < i + 1)]
    simp
  · have e1 : (k == ((W + 1) * j + i).toNat) = false := by simpa using e
    rw [e1]
    unfold stP
    have : (decide (rwI W k = j) && decide (clI W k < i + 1)) = (decide (rwI W k = j) && decide (clI W k < i)) := by
      by_cases hr : rwI W k = j
      · by_cases hc : clI W k = i
        · exact absurd (cell_inj hW hi hj hr hc) e
        · have : decide (clI W k < i + 1) = decide (clI W k < i) := decide_eq_decide.2 (by omega)
          rw [this]
      · rw [decide_eq_false hr]; rfl
    rw [this]
    rfl
theorem stP_row {W : Int} {h : Hit} {u : Nat → Int} {i j : Int} (hW : 0 ≤ W) (hi : mn2 W (h.i + h.r) < i) (k : Nat) : stP W h u j i k = stP W h u (j + 1) (mx2 0 (h.i - h.r)) k := by
  unfold stP
  cases e : boxB W h k with
  | false => rfl
  | true =>
    obtain ⟨b1, b2, b3, b4⟩ := boxB_get e
    obtain ⟨c1, c2, c3, c4⟩ := cell_rng hW k
    have h1 : clI W k < i := by unfold mn2 at hi; split at hi <;> omega
    have h2 : ¬ clI W k < mx2 0 (h.i - h.r) := by unfold mx2; split <;> omega
    rw [decide_eq_true h1, decide_eq_false h2]
    have : (decide (rwI W k < j) || decide (rwI W k = j) && true) = (decide (rwI W k < j + 1) || decide (rwI W k = j + 1) && false) := by
      by_cases a : rwI W k < j
      · rw [decide_eq_true a, decide_eq_true (by omega : rwI W k < j + 1)]; rfl
      · by_cases b : rwI W k = j
        · rw [decide_eq_true b, decide_eq_true (by omega : rwI W k < j + 1)]; simp
        · rw [decide_eq_false a, decide_eq_false b, decide_eq_false (by omega : ¬ rwI W k < j + 1)]; simp
    rw [this]
theorem stP_end {W H : Int} {n : Nat} {h : Hit} {u : Nat → Int} {i j : Int} (hW : 0 ≤ W) (hH : 0 ≤ H) (hn : (n : Int) = (W + 1) * (H + 1)) (hj : mn2 H (h.j + h.r) < j) (k : Nat) (hk : k < n) : stP W h u j i k = st1 W h u k := by
  unfold stP st1
  cases e : boxB W h k with
  | false => rfl
  | true =>
    obtain ⟨b1, b2, b3, b4⟩ := boxB_get e
    obtain ⟨c1, c2, c3, c4⟩ := cell_rng hW k
    have h0 : rwI W k ≤ H := by
      rcases Int.lt_or_le H (rwI W k) with hlt | hle
      · have := Int.mul_le_mul_of_nonneg_left (by omega : H + 1 ≤ rwI W k) (by omega : 0 ≤ W + 1)
        omega
      · exact hle
    have h1 : rwI W k < j := by unfold mn2 at hj; split at hj <;> omega
    rw [decide_eq_true h1]; rfl
theorem stV_rng {W : Int} {h : Hit} {u : Nat → Int} {k : Nat} (hu : 0 ≤ u k) : 0 ≤ stV W h u k ∧ stV W h u k ≤ u k := by
  unfold stV
  have := lowers_nonneg h (clI W k) (rwI W k)
  unfold mx2
  split <;> omega
theorem stP_rng {W : Int} {h : Hit} {u : Nat → Int} {i j : Int} {k : Nat} (hu : 0 ≤ u k) : 0 ≤ stP W h u j i k ∧ stP W h u j i k ≤ u k := by
  unfold stP
  cases boxB W h k && (decide (rwI W k < j) || decide (rwI W k = j) && decide (clI W k < i)) with
  | true => exact stV_rng hu
  | false => exact ⟨hu, Int.le_refl _⟩
theorem st1_rng {W : Int} {h : Hit} {u : Nat → Int} {k : Nat} (hu : 0 ≤ u k) : 0 ≤ st1 W h u k ∧ st1 W h u k ≤ u k := by
  unfold st1
  cases boxB W h k with
  | true => exact stV_rng hu
  | false => exact ⟨hu, Int.le_refl _⟩
theorem stN_rng {W : Int} {q : Nat → Hit} {u : Nat → Int} {k : Nat} (hu : 0 ≤ u k) : ∀ n, 0 ≤ stN W q u n k ∧ stN W q u n k ≤ u k
  | 0 => ⟨hu, Int.le_refl _⟩
  | n + 1 => by
    have h1 := stN_rng (W := W) (q := q) hu n
    have h2 := st1_rng (W := W) (h := q n) h1.1
    exact ⟨h2.1, Int.le_trans h2.2 h1.2⟩
/-- Are all hits such as may be? -/
def allH (q : Nat → Hit) : Nat → Bool
  | 0 => true
  | n + 1 => allH q n && mayH (q n)
theorem allH_get {q : Nat → Hit} : ∀ {n : Nat}, allH q n = true → ∀ j, j < n → mayH (q j) = true
  | 0, _, j, hj => by omega
  | n + 1, h, j, hj => by
    simp only [allH, Bool.and_eq_true] at h
    rcases Nat.lt_or_ge j n with hlt | hge
    · exact allH_get h.1 j hlt
    · have : j = n := by omega
      subst this; exact h.2
theorem allH_not {q : Nat → Hit} : ∀ {n j : Nat}, j < n → mayH (q j) = false → allH q n = false
  | 0, j, hj, _ => by omega
  | n + 1, j, hj, h => by
    simp only [allH]
    rcases Nat.lt_or_ge j n with hlt | hge
    · rw [allH_not hlt h]; rfl
    · have : j = n := by omega
      subst this; rw [h, Bool.and_false]
end Go.Eng.S27
