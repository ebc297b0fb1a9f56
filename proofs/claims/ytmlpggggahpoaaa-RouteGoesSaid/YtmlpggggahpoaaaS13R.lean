/- Seat 13: steps there and back. Plain Lean. -/
import Derived.Test.YtmlpggggahpoaaaS13Q
set_option linter.unusedSimpArgs false
set_option linter.unusedVariables false
namespace Go.Eng.S13

section
variable {W H : Int} {g : Nat → Bool} {n : Nat}
def opp (s : Nat) : Nat := (s + 4) % 8
theorem opp_lt (s : Nat) : opp s < 8 := Nat.mod_lt _ (by omega)
theorem opp_d {s : Nat} (h : s < 8) : dI (opp s) = -dI s ∧ dJ (opp s) = -dJ s ∧ prc (opp s) = prc s ∧ opp (opp s) = s := by
  rcases (by omega : s = 0 ∨ s = 1 ∨ s = 2 ∨ s = 3 ∨ s = 4 ∨ s = 5 ∨ s = 6 ∨ s = 7) with rfl | rfl | rfl | rfl | rfl | rfl | rfl | rfl <;> decide
/-- Is a cell open? -/
def opn (W H : Int) (g : Nat → Bool) (k : Int) : Bool := opF W H g (k % W) (k / W)
theorem opn_at (hm : mayL W H n = true) {k : Nat} (hk : k < n) : opn W H g k = g k := by
  obtain ⟨c1, c2, c3⟩ := cell_split hm (k := (k : Int)) ⟨by omega, by omega⟩
  unfold opn opF
  rw [decide_eq_true c1.1, decide_eq_true c1.2, decide_eq_true c2.1, decide_eq_true c2.2, ← c3, Int.toNat_natCast]
  rfl
/-- A step that goes, goes back. -/
theorem step_back (hm : mayL W H n = true) {k : Int} (hk : 0 ≤ k ∧ k < n) {s : Nat} (hs : s < 8) (ho : opn W H g k = true) {q : Int} (hq : gs W H g k s = q) (h0 : 0 ≤ q) : gs W H g q (opp s) = k ∧ opn W H g q = true := by
  obtain ⟨hW, hH, hn, hn1, hn2⟩ := may_get hm
  obtain ⟨c1, c2, c3⟩ := cell_split hm hk
  unfold gs goF at hq
  cases h : (opF W H g (k % W + dI s) (k / W + dJ s) && opF W H g (k % W + dI s) (k / W) && opF W H g (k % W) (k / W + dJ s)) with
  | false => rw [h] at hq; simp only [cond_false] at hq; omega
  | true =>
    rw [h] at hq
    simp only [cond_true] at hq
    simp only [Bool.and_eq_true] at h
    obtain ⟨⟨a1, a2⟩, a3⟩ := h
    have a1' := a1
    unfold opF at a1'
    simp only [Bool.and_eq_true, decide_eq_true_eq] at a1'
    obtain ⟨⟨⟨⟨b1, b2⟩, b3⟩, b4⟩, _⟩ := a1'
    have e : q = (k % W + dI s) + W * (k / W + dJ s) := by
      rw [Int.mul_add, Int.mul_comm W (dJ s)]; omega
    have em : q % W = k % W + dI s := by rw [e, Int.add_mul_emod_self_left, Int.emod_eq_of_lt b1 b2]
    have ed : q / W = k / W + dJ s := by
      rw [e, Int.add_mul_ediv_left _ _ (by omega), Int.ediv_eq_zero_of_lt b1 b2]; omega
    obtain ⟨o1, o2, _, _⟩ := opp_d hs
    refine ⟨?_, by unfold opn; rw [em, ed]; exact a1⟩
    unfold gs goF
    rw [em, ed, o1, o2]
    have f1 : k % W + dI s + -dI s = k % W := by omega
    have f2 : k / W + dJ s + -dJ s = k / W := by omega
    have ho' : opF W H g (k % W) (k / W) = true := ho
    rw [f1, f2, ho', a3, a2]
    show q + -dJ s * W + -dI s = k
    rw [Int.neg_mul]; omega
theorem goR_gs {k : Int} {s : Nat} : goR W H g k s = bif opn W H g k then gs W H g k s else -1 := rfl
theorem Rch.opn (hm : mayL W H n = true) {t k : Nat} (ht : t < n) (hg : g t = true) {v : Int} (h : Rch W H g t k v) : k < n ∧ S13.opn W H g k = true := by
  induction h with
  | base => exact ⟨ht, by rw [opn_at hm ht]; exact hg⟩
  | step c v s q _ hs hq ih =>
    have hr := gs_rng (g := g) (s := s) hm (c := (c : Int)) ⟨by omega, by omega⟩
    exact ⟨by omega, (step_back hm ⟨by omega, by omega⟩ hs ih.2 hq (by omega)).2⟩
/-- The document's answer, by what it is when nothing changes any more, is the same one. -/
theorem ref_same (hm : mayL W H n = true) {t : Nat} (ht : t < n) (hg : g t = true) {c : Nat → Int} (h1 : ∀ k, k < n → 0 ≤ c k → Rch W H g t k (c k)) (h0 : 0 ≤ c t ∧ c t ≤ 0)
    (h2 : ∀ k s q : Nat, k < n → s < 8 → goR W H g k s = (q : Int) → 0 ≤ c q → 0 ≤ c k ∧ c k ≤ c q + prc s) (h3 : ∀ k, c k < 0 → c k = -1) : ∀ k, k < n → c k = costs W H g n t k := by
  obtain ⟨m1, m2, m3⟩ := costs_least hm ht hg
  have least : ∀ k v, Rch W H g t k v → 0 ≤ c k ∧ c k ≤ v := by
    intro k v h
    induction h with
    | base => exact h0
    | step d v s q hd hs hq ih =>
      have ho := hd.opn hm ht hg
      have hb := step_back hm ⟨by omega, by omega⟩ hs ho.2 hq (by omega)
      have hr := gs_rng (g := g) (s := s) hm (c := (d : Int)) ⟨by omega, by omega⟩
      have := h2 q (opp s) d (by omega) (opp_lt s) (by rw [goR_gs, hb.2]; exact hb.1) ih.1
      rw [(opp_d hs).2.2.1] at this
      omega
  intro k hk
  by_cases hc : 0 ≤ c k
  · have a := m2 k _ hk (h1 k hk hc)
    have b := least k _ (m1 k hk a.1)
    omega
  · have : ¬ 0 ≤ costs W H g n t k := fun h => hc (least k _ (m1 k hk h)).1
    rw [h3 k (by omega), m3 k (by omega)]
end
end Go.Eng.S13
