/- Seat 13: what waits keeps its order: the least one stands first. Plain Lean. -/
import Derived.Test.YtmlpggggahpoaaaS13F
set_option linter.unusedSimpArgs false
set_option linter.unusedVariables false
namespace Go.Eng.S13

/-- Each one costs no less than the one above it. -/
def Hp (w : Ws) (n : Nat) : Prop := ∀ i, 0 < i → i < n → (w ((i - 1) / 2)).2 ≤ (w i).2
/-- .. but for one place, whose own children cost no less than the one above it. -/
def HpU (w : Ws) (n k : Nat) : Prop := (∀ i, 0 < i → i < n → i ≠ k → (w ((i - 1) / 2)).2 ≤ (w i).2) ∧ ∀ i, 0 < i → i < n → (i - 1) / 2 = k → 0 < k → (w ((k - 1) / 2)).2 ≤ (w i).2
theorem swp_l {w : Ws} {i j : Nat} : swp w i j j = w i := by unfold swp; simp
theorem swp_i {w : Ws} {i j : Nat} (h : i ≠ j) : swp w i j i = w j := by
  unfold swp
  have : (i == j) = false := by simpa using h
  rw [this]; simp
theorem swp_o {w : Ws} {i j x : Nat} (h1 : x ≠ i) (h2 : x ≠ j) : swp w i j x = w x := by
  unfold swp
  have e1 : (x == j) = false := by simpa using h2
  have e2 : (x == i) = false := by simpa using h1
  rw [e1, e2]; rfl
theorem upN_hp : ∀ (f : Nat) {w : Ws} {n k : Nat}, k < n → k ≤ f → HpU w n k → Hp (upN f w k) n
  | 0, w, n, k, hk, hf, h => by
    have : k = 0 := by omega
    subst this
    intro i h1 h2
    exact h.1 i h1 h2 (by omega)
  | f + 1, w, n, k, hk, hf, h => by
    by_cases hc : 0 < k ∧ (w k).2 < (w ((k - 1) / 2)).2
    · rw [upN_yes hc.1 (decide_eq_true hc.2)]
      have hd : (k - 1) / 2 < k := by omega
      generalize hp : (k - 1) / 2 = p at hd hc
      refine upN_hp f (by omega) (by omega) ⟨fun i h1 h2 h3 => ?_, fun i h1 h2 h3 h4 => ?_⟩
      · by_cases hik : i = k
        · subst hik
          rw [hp, swp_l, swp_i (by omega)]; omega
        · by_cases hpk : (i - 1) / 2 = k
          · rw [hpk, swp_i (by omega), swp_o (by omega) (by omega)]
            have := h.2 i h1 h2 hpk hc.1
            rwa [hp] at this
          · by_cases hpp : (i - 1) / 2 = p
            · rw [hpp, swp_l, swp_o (by omega) (by omega)]
              have := h.1 i h1 h2 hik
              rw [hpp] at this; omega
            · rw [swp_o (x := (i - 1) / 2) hpk hpp, swp_o (x := i) hik h3]
              exact h.1 i h1 h2 hik
      · have hpp : (w ((p - 1) / 2)).2 ≤ (w p).2 := h.1 p h4 (by omega) (by omega)
        rw [swp_o (x := (p - 1) / 2) (by omega) (by omega)]
        by_cases hik : i = k
        · subst hik
          rw [swp_i (by omega)]; exact hpp
        · rw [swp_o (x := i) hik (by omega)]
          have := h.1 i h1 h2 hik
          rw [h3] at this; omega
    · have : decide ((w k).2 < (w ((k - 1) / 2)).2) = false ∨ k = 0 := by
        by_cases h0 : k = 0
        · exact .inr h0
        · exact .inl (decide_eq_false fun h => hc ⟨by omega, h⟩)
      intro i h1 h2
      rcases this with h3 | h3
      · rw [upN_no h3]
        by_cases hik : i = k
        · subst hik; have := of_decide_eq_false h3; omega
        · exact h.1 i h1 h2 hik
      · subst h3
        rw [upN_zero]
        exact h.1 i h1 h2 (by omega)
theorem push_hp {w : Ws} {n : Nat} {q : Int × Int} (h : Hp w n) : Hp (pushW w n q) (n + 1) := by
  have ho : ∀ i, i ≠ n → addW w n q i = w i := fun i hi => by
    unfold addW
    have : (i == n) = false := by simpa using hi
    rw [this]; rfl
  refine upN_hp n (Nat.lt_succ_self n) (Nat.le_refl n) ⟨fun i h1 h2 h3 => ?_, fun i h1 h2 h3 h4 => by omega⟩
  rw [ho i h3, ho ((i - 1) / 2) (by omega)]
  exact h i h1 (by omega)
/-- The least one stands first. -/
theorem hp_min {w : Ws} {n : Nat} (h : Hp w n) : ∀ (i : Nat), i < n → (w 0).2 ≤ (w i).2 := by
  intro i
  induction i using Nat.strongRecOn with
  | _ i ih =>
    intro hi
    by_cases h0 : i = 0
    · subst h0; exact Int.le_refl _
    · have h1 := ih ((i - 1) / 2) (by omega) (by omega)
      have h2 := h i (by omega) hi
      omega
/-- .. but for one place's children, which cost no less than the one above that place. -/
def HpD (w : Ws) (n k : Nat) : Prop := (∀ i, 0 < i → i < n → (i - 1) / 2 ≠ k → (w ((i - 1) / 2)).2 ≤ (w i).2) ∧ ∀ i, 0 < i → i < n → (i - 1) / 2 = k → 0 < k → (w ((k - 1) / 2)).2 ≤ (w i).2
theorem chC_min {w : Ws} {n k i : Nat} (h : i < n) (hi : i = 2 * k + 1 ∨ i = 2 * k + 2) : (w (chC w n k)).2 ≤ (w i).2 := by
  unfold chC
  by_cases h2 : 2 * k + 2 < n
  · rw [nblt_yes h2]
    by_cases h3 : (w (2 * k + 2)).2 < (w (2 * k + 1)).2
    · rw [decide_eq_true h3]
      show (w (2 * k + 2)).2 ≤ _
      rcases hi with rfl | rfl <;> omega
    · rw [decide_eq_false h3]
      show (w (2 * k + 1)).2 ≤ _
      rcases hi with rfl | rfl <;> omega
  · rw [nblt_no h2]
    show (w (2 * k + 1)).2 ≤ _
    rcases hi with rfl | rfl <;> omega
theorem downN_hp : ∀ (f : Nat) {w : Ws} {n k : Nat}, n ≤ k + f → HpD w n k → Hp (downN f w n k) n
  | f, w, n, k, hf, h => by
    by_cases hk : 2 * k + 1 < n
    · obtain ⟨f, rfl⟩ : ∃ f', f = f' + 1 := ⟨f - 1, by omega⟩
      have hr := chC_rng (w := w) hk
      by_cases hc : (w (chC w n k)).2 < (w k).2
      · rw [downN_go hk (decide_eq_true hc)]
        have hmin : ∀ i, i < n → (i = 2 * k + 1 ∨ i = 2 * k + 2) → (w (chC w n k)).2 ≤ (w i).2 := fun i h1 h2 => chC_min h1 h2
        generalize chC w n k = c at hr hc hmin
        have hpc : (c - 1) / 2 = k := by omega
        refine downN_hp f (by omega) ⟨fun i h1 h2 h3 => ?_, fun i h1 h2 h3 h4 => ?_⟩
        · by_cases hik : i = k
          · subst hik
            rw [swp_i (by omega), swp_o (by omega) (by omega)]
            exact h.2 c (by omega) hr.2.1 hpc h1
          · by_cases hpk : (i - 1) / 2 = k
            · rw [hpk, swp_i (w := w) (i := k) (j := c) (by omega)]
              by_cases hic : i = c
              · subst hic; rw [swp_l]; omega
              · rw [swp_o hik hic]
                exact hmin i h2 (by omega)
            · rw [swp_o (x := (i - 1) / 2) hpk h3, swp_o (x := i) hik (by omega)]
              exact h.1 i h1 h2 hpk
        · rw [hpc, swp_i (w := w) (i := k) (j := c) (by omega), swp_o (x := i) (by omega) (by omega)]
          have := h.1 i h1 h2 (by omega)
          rwa [h3] at this
      · rw [downN_stop (decide_eq_false hc)]
        intro i h1 h2
        by_cases hp : (i - 1) / 2 = k
        · have := chC_min (w := w) h2 (by omega : i = 2 * k + 1 ∨ i = 2 * k + 2)
          rw [hp]; omega
        · exact h.1 i h1 h2 hp
    · rw [downN_end hk]
      intro i h1 h2
      exact h.1 i h1 h2 (by omega)
termination_by f => f
theorem set0_o {w : Ws} {l i : Nat} (h : i ≠ 0) : set0 w l i = w i := by
  unfold set0
  have : (i == 0) = false := by simpa using h
  rw [this]; rfl
theorem pop_hp {w : Ws} {l : Nat} (h : Hp w (l + 1)) : Hp (popW w l) l := by
  refine downN_hp l (by omega) ⟨fun i h1 h2 h3 => ?_, fun i h1 h2 h3 h4 => by omega⟩
  rw [set0_o (i := i) (by omega), set0_o (i := (i - 1) / 2) h3]
  exact h i h1 (by omega)
/-- Who waits. -/
def In (w : Ws) (n : Nat) (x : Int × Int) : Prop := ∃ i, i < n ∧ w i = x
theorem In.swp {w : Ws} {n i j : Nat} {x : Int × Int} (hi : i < n) (hj : j < n) (h : In w n x) : In (swp w i j) n x := by
  obtain ⟨k, hk, rfl⟩ := h
  by_cases h1 : k = i
  · subst h1; exact ⟨j, hj, swp_l⟩
  · by_cases h2 : k = j
    · subst h2; exact ⟨i, hi, swp_i (by omega)⟩
    · exact ⟨k, hk, swp_o h1 h2⟩
theorem upN_in : ∀ (f : Nat) {w : Ws} {n k : Nat} {x : Int × Int}, k < n → In w n x → In (upN f w k) n x
  | 0, w, n, k, x, _, h => h
  | f + 1, w, n, k, x, hk, h => by
    simp only [upN]
    cases hc : (Nat.blt 0 k && decide ((w k).2 < (w ((k - 1) / 2)).2)) with
    | true => exact upN_in f (by omega) (h.swp hk (by omega))
    | false => exact h
theorem push_in {w : Ws} {n : Nat} {q x : Int × Int} (h : In w n x ∨ x = q) : In (pushW w n q) (n + 1) x := by
  refine upN_in n (Nat.lt_succ_self n) ?_
  rcases h with ⟨i, hi, rfl⟩ | rfl
  · refine ⟨i, by omega, ?_⟩
    unfold addW
    have : (i == n) = false := by simp; omega
    rw [this]; rfl
  · exact ⟨n, Nat.lt_succ_self n, by unfold addW; simp⟩
theorem downN_in : ∀ (f : Nat) {w : Ws} {n k : Nat} {x : Int × Int}, In w n x → In (downN f w n k) n x
  | 0, w, n, k, x, h => h
  | f + 1, w, n, k, x, h => by
    simp only [downN]
    cases hc : (Nat.blt (2 * k + 1) n && decide ((w (chC w n k)).2 < (w k).2)) with
    | true =>
      have h1 : 2 * k + 1 < n := by
        rw [Bool.and_eq_true] at hc
        simpa [Nat.blt_eq] using hc.1
      have h2 := chC_rng (w := w) h1
      exact downN_in f (h.swp (by omega) h2.2.1)
    | false => exact h
theorem pop_in {w : Ws} {l : Nat} {x : Int × Int} (h : In w (l + 1) x) : x = w 0 ∨ In (popW w l) l x := by
  obtain ⟨i, hi, rfl⟩ := h
  by_cases h0 : i = 0
  · subst h0; exact .inl rfl
  · refine .inr (downN_in l ?_)
    by_cases hl : i = l
    · subst hl
      exact ⟨0, by omega, by unfold set0; simp⟩
    · exact ⟨i, by omega, set0_o h0⟩
end Go.Eng.S13
