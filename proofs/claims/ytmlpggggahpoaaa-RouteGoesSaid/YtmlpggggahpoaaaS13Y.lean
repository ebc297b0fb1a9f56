/- Seat 13: a way goes on step by step, and falls. Plain Lean. -/
import Derived.Test.YtmlpggggahpoaaaS13S
set_option linter.unusedSimpArgs false
set_option linter.unusedVariables false
namespace Go.Eng.S13

section
variable {W H : Int} {g : Nat → Bool} {n : Nat}
/-- One step of a way. -/
def Stp (W H : Int) (g : Nat → Bool) (n : Nat) (C : Nat → Int) (a b : Int) : Prop := ∃ c q s : Nat, a = (c : Int) ∧ b = (q : Int) ∧ c < n ∧ q < n ∧ s < 8 ∧ goR W H g c s = (q : Int) ∧ gs W H g c s = (q : Int) ∧ C q + prc s = C c
def Good (W H : Int) (g : Nat → Bool) (n : Nat) (C : Nat → Int) (l : List Int) : Prop := ∀ q, q + 1 < l.length → Stp W H g n C (l.getD q 0) (l.getD (q + 1) 0)
theorem getD_app1 {l : List Int} {x : Int} {i : Nat} (h : i < l.length) : (l ++ [x]).getD i 0 = l.getD i 0 := by
  rw [List.getD_eq_getElem?_getD, List.getD_eq_getElem?_getD, List.getElem?_append_left h]
theorem getD_app2 {l : List Int} {x : Int} : (l ++ [x]).getD l.length 0 = x := by
  simp [List.getD_eq_getElem?_getD]
theorem wayR_good (hm : mayL W H n = true) {t : Nat} (ht : t < n) (hg : g t = true) : ∀ (f k : Nat) (acc : List Int), k < n → 0 ≤ costs W H g n t k → costs W H g n t k < f → 0 < acc.length → acc.getD (acc.length - 1) 0 = (k : Int) → Good W H g n (costs W H g n t) acc →
    Good W H g n (costs W H g n t) (wayR W H g (costs W H g n t) t f k acc) ∧ (wayR W H g (costs W H g n t) t f k acc).getD ((wayR W H g (costs W H g n t) t f k acc).length - 1) 0 = (t : Int) ∧ ((wayR W H g (costs W H g n t) t f k acc).length : Int) ≤ acc.length + costs W H g n t k
  | 0, k, acc, h1, h2, h3, _, _, _ => by omega
  | f + 1, k, acc, h1, h2, h3, h4, h5, h6 => by
    by_cases hkt : k = t
    · subst hkt
      rw [wayR_end]
      exact ⟨h6, h5, by omega⟩
    · rw [wayR_on hkt]
      obtain ⟨x1, x2, x3, x4, x5⟩ := nxt_ok hm ht hg h1 hkt h2
      have ho := ((costs_least hm ht hg).1 k h1 h2).opn hm ht hg
      have hgr : goR W H g k (fstN (onW W H g (costs W H g n t) k) 8) = (nxt W H g (costs W H g n t) k : Int) := by rw [goR_gs, ho.2]; exact x2
      have hpr := prc_rng (fstN (onW W H g (costs W H g n t) k) 8)
      generalize nxt W H g (costs W H g n t) k = q at x2 x3 x4 x5 hgr ⊢
      have hlen : (acc ++ [(q : Int)]).length = acc.length + 1 := by rw [List.length_append]; rfl
      have := wayR_good hm ht hg f q (acc ++ [(q : Int)]) x3 x4 (by omega) (by omega) (by rw [hlen]; exact getD_app2) fun i hi => by
        rw [hlen] at hi
        rcases Nat.lt_or_ge (i + 1) acc.length with h | h
        · rw [getD_app1 h, getD_app1 (by omega)]
          exact h6 i h
        · have e : i = acc.length - 1 := by omega
          have e2 : i + 1 = acc.length := by omega
          rw [e2, getD_app2, getD_app1 (by omega), e, h5]
          exact ⟨k, q, _, rfl, rfl, h1, x3, x1, hgr, x2, x5⟩
      refine ⟨this.1, this.2.1, ?_⟩
      have h7 := this.2.2
      rw [hlen] at h7
      omega
/-- All along a way the cost falls. -/
theorem Good.fall {C : Nat → Int} {l : List Int} (h : Good W H g n C l) {p : Nat} : ∀ d, p + d + 1 < l.length → C (l.getD (p + d + 1) 0).toNat < C (l.getD p 0).toNat
  | 0, hq => by
    obtain ⟨c, q, s, e1, e2, _, _, _, _, _, e⟩ := h p hq
    have e2' : l.getD (p + 0 + 1) 0 = (q : Int) := e2
    rw [e1, e2', Int.toNat_natCast, Int.toNat_natCast]
    have := prc_rng s
    omega
  | d + 1, hq => by
    have h1 := Good.fall (p := p) h d (by omega)
    obtain ⟨c, q, s, e1, e2, _, _, _, _, _, e⟩ := h (p + d + 1) hq
    have e1' : l.getD (p + d + 1) 0 = (c : Int) := e1
    have e2' : l.getD (p + (d + 1) + 1) 0 = (q : Int) := e2
    rw [e1', Int.toNat_natCast] at h1
    rw [e2', Int.toNat_natCast]
    have := prc_rng s
    omega
theorem Good.ne {C : Nat → Int} {l : List Int} (h : Good W H g n C l) {p q : Nat} (hp : p < q) (hq : q < l.length) : l.getD p 0 ≠ l.getD q 0 := by
  intro e
  have := h.fall (p := p) (q - p - 1) (by omega)
  have e2 : p + (q - p - 1) + 1 = q := by omega
  rw [e2, e] at this
  omega
/-- A cell's steps lead to different cells. -/
theorem gs_inj (hm : mayL W H n = true) {k : Int} (hk : 0 ≤ k ∧ k < n) {s s' q : Nat} (hs : s < 8) (hs' : s' < 8) (h1 : gs W H g k s = (q : Int)) (h2 : gs W H g k s' = (q : Int)) : s = s' := by
  obtain ⟨hW, hH, hn, hn1, hn2⟩ := may_get hm
  have key : ∀ {s : Nat}, gs W H g k s = (q : Int) → (q : Int) % W = k % W + dI s ∧ (q : Int) / W = k / W + dJ s := by
    intro s hq
    obtain ⟨c1, c2, c3⟩ := cell_split hm hk
    unfold gs goF at hq
    cases h : (opF W H g (k % W + dI s) (k / W + dJ s) && opF W H g (k % W + dI s) (k / W) && opF W H g (k % W) (k / W + dJ s)) with
    | false => rw [h] at hq; simp only [cond_false] at hq; omega
    | true =>
      rw [h] at hq
      simp only [cond_true] at hq
      simp only [Bool.and_eq_true] at h
      obtain ⟨⟨a1, a2⟩, a3⟩ := h
      unfold opF at a1
      simp only [Bool.and_eq_true, decide_eq_true_eq] at a1
      obtain ⟨⟨⟨⟨b1, b2⟩, b3⟩, b4⟩, _⟩ := a1
      have e : (q : Int) = (k % W + dI s) + W * (k / W + dJ s) := by
        rw [Int.mul_add, Int.mul_comm W (dJ s)]; omega
      rw [e]
      exact ⟨by rw [Int.add_mul_emod_self_left, Int.emod_eq_of_lt b1 b2], by rw [Int.add_mul_ediv_left _ _ (by omega), Int.ediv_eq_zero_of_lt b1 b2]; omega⟩
  have a := key h1
  have b := key h2
  have e1 : dI s = dI s' := by omega
  have e2 : dJ s = dJ s' := by omega
  clear key a b h1 h2
  rcases (by omega : s = 0 ∨ s = 1 ∨ s = 2 ∨ s = 3 ∨ s = 4 ∨ s = 5 ∨ s = 6 ∨ s = 7) with rfl | rfl | rfl | rfl | rfl | rfl | rfl | rfl <;>
    rcases (by omega : s' = 0 ∨ s' = 1 ∨ s' = 2 ∨ s' = 3 ∨ s' = 4 ∨ s' = 5 ∨ s' = 6 ∨ s' = 7) with rfl | rfl | rfl | rfl | rfl | rfl | rfl | rfl <;> first | rfl | (exfalso; revert e1 e2; decide)
theorem goR_inj (hm : mayL W H n = true) {k : Int} (hk : 0 ≤ k ∧ k < n) {s s' q : Nat} (hs : s < 8) (hs' : s' < 8) (h1 : gs W H g k s = (q : Int)) (h2 : goR W H g k s' = (q : Int)) : s = s' := by
  refine gs_inj hm hk hs hs' h1 ?_
  rw [goR_gs] at h2
  cases h : opn W H g k with
  | true => rw [h] at h2; exact h2
  | false => rw [h] at h2; simp only [cond_false] at h2; omega
theorem costs_self (hm : mayL W H n = true) {t : Nat} (ht : t < n) (hg : g t = true) : costs W H g n t t = 0 := by
  have := (costs_least hm ht hg).2.1 t 0 ht .base
  omega
end
end Go.Eng.S13
