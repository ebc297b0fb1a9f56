/- Seat 13: there and back, by way of a third cell, and of more open cells. Plain Lean. -/
import Derived.Test.YtmlpggggahpoaaaS13S
set_option linter.unusedSimpArgs false
set_option linter.unusedVariables false
namespace Go.Eng.S13

section
variable {W H : Int} {g : Nat → Bool} {n : Nat}
theorem Rch.trans {s t k : Nat} {u v : Int} (h : Rch W H g s t u) (h2 : Rch W H g t k v) : Rch W H g s k (u + v) := by
  induction h2 with
  | base => rw [Int.add_zero]; exact h
  | step c v s' q _ hs hq ih =>
    have := Rch.step c _ s' q ih hs hq
    rw [Int.add_assoc] at this
    exact this
theorem Rch.rev (hm : mayL W H n = true) {t k : Nat} (ht : t < n) (hg : g t = true) {v : Int} (h : Rch W H g t k v) : Rch W H g k t v := by
  induction h with
  | base => exact .base
  | step c v s q hc hs hq ih =>
    have ho := hc.opn hm ht hg
    have hb := step_back hm ⟨by omega, by omega⟩ hs ho.2 hq (by omega)
    have h1 := Rch.step q 0 (opp s) c .base (opp_lt s) hb.1
    rw [(opp_d hs).2.2.1] at h1
    have := h1.trans ih
    have e : 0 + prc s + v = v + prc s := by omega
    rw [e] at this
    exact this
theorem Rch.gk (hm : mayL W H n = true) {t k : Nat} (ht : t < n) (hg : g t = true) {v : Int} (h : Rch W H g t k v) : g k = true := by
  have ho := h.opn hm ht hg
  rw [opn_at hm ho.1] at ho
  exact ho.2
theorem costs_shut {t k : Nat} (h : g t = false) : costs W H g n t k = -1 := by
  unfold costs; rw [Int.toNat_natCast, h]; rfl
theorem costs_low (hm : mayL W H n = true) {t k : Nat} (ht : t < n) (hk : k < n) (h : ¬ 0 ≤ costs W H g n t k) : costs W H g n t k = -1 := by
  cases hg : g t with
  | false => exact costs_shut hg
  | true => exact (costs_least hm ht hg).2.2 k (by omega)
theorem costs_le (hm : mayL W H n = true) {t k : Nat} (ht : t < n) (hk : k < n) (h : 0 ≤ costs W H g n t k) : 0 ≤ costs W H g n k t ∧ costs W H g n k t ≤ costs W H g n t k := by
  have hg := costs_open h
  have hr := (costs_least hm ht hg).1 k hk h
  exact (costs_least hm hk (hr.gk hm ht hg)).2.1 t _ ht (hr.rev hm ht hg)
theorem costs_sym (hm : mayL W H n = true) {t k : Nat} (ht : t < n) (hk : k < n) : costs W H g n t k = costs W H g n k t := by
  by_cases h : 0 ≤ costs W H g n t k
  · have h1 := costs_le hm ht hk h
    have h2 := costs_le hm hk ht h1.1
    omega
  · have h2 : ¬ 0 ≤ costs W H g n k t := fun h2 => h (costs_le hm hk ht h2).1
    rw [costs_low hm ht hk h, costs_low hm hk ht h2]
theorem costs_tri (hm : mayL W H n = true) {t y k : Nat} (ht : t < n) (hy : y < n) (hk : k < n) (h1 : 0 ≤ costs W H g n y k) (h2 : 0 ≤ costs W H g n t y) : 0 ≤ costs W H g n t k ∧ costs W H g n t k ≤ costs W H g n y k + costs W H g n t y := by
  have hg := costs_open h2
  have r2 := (costs_least hm ht hg).1 y hy h2
  have r1 := (costs_least hm hy (costs_open h1)).1 k hk h1
  have := (costs_least hm ht hg).2.1 k _ hk (r2.trans r1)
  omega
variable {k t y : Int}
theorem cost_sym : costE W H g n k t = costE W H g n t k ∧ costV W H g n k t = costV W H g n t k := by
  cases hm : mayL W H n with
  | false =>
    have a := costE_may (g := g) (k := k) (t := t) hm
    have b := costE_may (g := g) (k := t) (t := k) hm
    exact ⟨a.trans b.symm, (costE_bad (m := 0) (by rw [a]; decide)).1.trans (costE_bad (m := 0) (by rw [b]; decide)).1.symm⟩
  | true =>
    by_cases hi : (0 ≤ k ∧ k < n) ∧ 0 ≤ t ∧ t < n
    · obtain ⟨hk, ht⟩ := hi
      obtain ⟨k, rfl⟩ := Int.eq_ofNat_of_zero_le hk.1
      obtain ⟨t, rfl⟩ := Int.eq_ofNat_of_zero_le ht.1
      have hs := costs_sym (g := g) hm (t := t) (k := k) (by omega) (by omega)
      by_cases hc : 0 ≤ costs W H g n t k
      · have a := costE_ok (g := g) hm hk ht (by rw [Int.toNat_natCast]; exact hc)
        have b := costE_ok (g := g) hm ht hk (by rw [Int.toNat_natCast]; omega)
        rw [Int.toNat_natCast] at a b
        exact ⟨a.1.trans b.1.symm, by rw [a.2, b.2]; exact hs⟩
      · have a := costE_none (g := g) hm hk ht (by rw [Int.toNat_natCast]; omega)
        have b := costE_none (g := g) hm ht hk (by rw [Int.toNat_natCast]; omega)
        exact ⟨a.trans b.symm, (costE_bad (m := 0) (by rw [a]; decide)).1.trans (costE_bad (m := 0) (by rw [b]; decide)).1.symm⟩
    · have a := costE_rng (g := g) hm hi
      have b := costE_rng (g := g) hm (k := t) (t := k) (by omega)
      exact ⟨a.trans b.symm, (costE_bad (m := 0) (by rw [a]; decide)).1.trans (costE_bad (m := 0) (by rw [b]; decide)).1.symm⟩
/-- What is known where there is a cost. -/
theorem cost_fine (h : costE W H g n k t = 0) : mayL W H n = true ∧ (0 ≤ k ∧ k < n) ∧ (0 ≤ t ∧ t < n) ∧ 0 ≤ costs W H g n t k.toNat ∧ costV W H g n k t = costs W H g n t k.toNat := by
  have z := costE_zero h
  exact ⟨z.2.1.2.2.1, z.2.2.1, z.2.1.2.2.2, z.2.2.2, (costE_ok z.2.1.2.2.1 z.2.2.1 z.2.1.2.2.2 z.2.2.2).2⟩
theorem cost_bd : 0 ≤ costV W H g n k t ∧ costV W H g n k t ≤ 100000 := by
  by_cases h : costE W H g n k t = 0
  · obtain ⟨hm, hk, ht, h0, hv⟩ := cost_fine h
    rw [hv]
    exact ⟨h0, (costs_bd hm ht _ (by omega)).2⟩
  · rw [(costE_bad (m := 0) h).1]; omega
theorem cost_tri (h1 : costE W H g n k y = 0) (h2 : costE W H g n y t = 0) : costE W H g n k t = 0 ∧ costV W H g n k t ≤ costV W H g n k y + costV W H g n y t := by
  obtain ⟨hm, hk, hy, a1, v1⟩ := cost_fine h1
  obtain ⟨_, _, ht, a2, v2⟩ := cost_fine h2
  rw [v1, v2]
  obtain ⟨k, rfl⟩ := Int.eq_ofNat_of_zero_le hk.1
  obtain ⟨t, rfl⟩ := Int.eq_ofNat_of_zero_le ht.1
  obtain ⟨y, rfl⟩ := Int.eq_ofNat_of_zero_le hy.1
  rw [Int.toNat_natCast] at a1 a2
  rw [Int.toNat_natCast, Int.toNat_natCast]
  have h3 := costs_tri hm (t := t) (y := y) (k := k) (by omega) (by omega) (by omega) a1 a2
  obtain ⟨e1, e2⟩ := costE_ok (g := g) hm hk ht (by rw [Int.toNat_natCast]; exact h3.1)
  rw [Int.toNat_natCast] at e2
  exact ⟨e1, by rw [e2]; exact h3.2⟩
/-- A step that goes over fewer open cells goes over more. -/
theorem gs_mono {g' : Nat → Bool} (h : ∀ i, g i = true → g' i = true) {c : Int} {s q : Nat} (hq : gs W H g c s = (q : Int)) : gs W H g' c s = (q : Int) := by
  have ho : ∀ i j, opF W H g i j = true → opF W H g' i j = true := by
    intro i j h1
    unfold opF at h1 ⊢
    rw [Bool.and_eq_true] at h1 ⊢
    exact ⟨h1.1, h _ h1.2⟩
  unfold gs goF at hq ⊢
  cases e : (opF W H g (c % W + dI s) (c / W + dJ s) && opF W H g (c % W + dI s) (c / W) && opF W H g (c % W) (c / W + dJ s)) with
  | false => rw [e] at hq; simp only [cond_false] at hq; omega
  | true =>
    rw [e] at hq
    simp only [Bool.and_eq_true] at e
    rw [ho _ _ e.1.1, ho _ _ e.1.2, ho _ _ e.2]
    exact hq
theorem Rch.mono {g' : Nat → Bool} (h : ∀ i, g i = true → g' i = true) {t k : Nat} {v : Int} (hr : Rch W H g t k v) : Rch W H g' t k v := by
  induction hr with
  | base => exact .base
  | step c v s q _ hs hq ih => exact .step c v s q ih hs (gs_mono h hq)
theorem cost_mono {g' : Nat → Bool} (h : ∀ i, g i = true → g' i = true) (h1 : costE W H g n k t = 0) : costE W H g' n k t = 0 ∧ costV W H g' n k t ≤ costV W H g n k t := by
  obtain ⟨hm, hk, ht, a1, v1⟩ := cost_fine h1
  rw [v1]
  obtain ⟨k, rfl⟩ := Int.eq_ofNat_of_zero_le hk.1
  obtain ⟨t, rfl⟩ := Int.eq_ofNat_of_zero_le ht.1
  rw [Int.toNat_natCast] at a1 ⊢
  have hg := costs_open a1
  have hr := (costs_least hm (by omega) hg).1 k (by omega) a1
  have h3 := (costs_least hm (by omega) (h _ hg)).2.1 k _ (by omega) (hr.mono h)
  obtain ⟨e1, e2⟩ := costE_ok (g := g') hm hk ht (by rw [Int.toNat_natCast]; exact h3.1)
  rw [Int.toNat_natCast] at e2
  exact ⟨e1, by rw [e2]; exact h3.2⟩
end
end Go.Eng.S13
