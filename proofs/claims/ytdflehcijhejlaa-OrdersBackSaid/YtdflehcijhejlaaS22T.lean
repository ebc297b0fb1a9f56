/- Seat 22: bytes there and back, in plain numbers. -/
import Derived.Test.YtdflehcijhejlaaEngX
import Derived.Test.YtdflehcijhejlaaS22H
set_option linter.unusedSimpArgs false
set_option linter.unusedVariables false
namespace Go.Eng.S22
open Go.Proofs Go.IntWalk
set_option maxRecDepth 10000

theorem encL_get (w : Os) : ∀ (m k r : Nat), k < m → r < 11 → (encL w m).getD (11 * k + r) 0 = (orB (w k)).getD r 0
  | 0, k, r, hk, _ => by omega
  | m + 1, k, r, hk, hr => by
    have hl := encL_len w m
    show (encL w m ++ orB (w m)).getD (11 * k + r) 0 = _
    by_cases h : k < m
    · rw [← encL_get w m k r h hr]
      simp only [List.getD_eq_getElem?_getD]
      rw [List.getElem?_append_left (by omega)]
    · have : k = m := by omega
      subst this
      simp only [List.getD_eq_getElem?_getD]
      rw [List.getElem?_append_right (by omega), hl]
      congr 2; omega
theorem by4_sum {v : Int} (h0 : 0 ≤ v) (h1 : v < 4294967296) : by4 v 0 + 256 * by4 v 1 + 65536 * by4 v 2 + 16777216 * by4 v 3 = v := by
  have e0 : by4 v 0 = v % 256 := by unfold by4; simp
  have e1 : by4 v 1 = v / 256 % 256 := by unfold by4; simp
  have e2 : by4 v 2 = v / 65536 % 256 := rfl
  have e3 : by4 v 3 = v / 16777216 % 256 := rfl
  rw [e0, e1, e2, e3]; omega
theorem by4_num {u : Nat → Int} {p : Nat} (h : ∀ i, p ≤ i → i < p + 4 → 0 ≤ u i ∧ u i ≤ 255) :
    by4 (num4 u p) 0 = u p ∧ by4 (num4 u p) 1 = u (p + 1) ∧ by4 (num4 u p) 2 = u (p + 2) ∧ by4 (num4 u p) 3 = u (p + 3) := by
  have h0 := h p (by omega) (by omega)
  have h1 := h (p + 1) (by omega) (by omega)
  have h2 := h (p + 2) (by omega) (by omega)
  have h3 := h (p + 3) (by omega) (by omega)
  have e0 : ∀ v, by4 v 0 = v % 256 := fun v => by unfold by4; simp
  have e1 : ∀ v, by4 v 1 = v / 256 % 256 := fun v => by unfold by4; simp
  have e2 : ∀ v, by4 v 2 = v / 65536 % 256 := fun v => rfl
  have e3 : ∀ v, by4 v 3 = v / 16777216 % 256 := fun v => rfl
  rw [e0, e1, e2, e3]
  unfold num4
  omega
/-- What was encoded is decoded as it was. -/
theorem dec_enc {w : Os} {m k : Nat} (hk : k < m) (hf : fO (w k) = true) : decL (fun j => (encL w m).getD j 0) k = w k := by
  have g : ∀ r, r < 11 → (encL w m).getD (11 * k + r) 0 = (orB (w k)).getD r 0 := fun r hr => encL_get w m k r hk hr
  obtain ⟨r1, r2, r3, r4⟩ := fO_rng hf
  have hkk := fO_kind hf
  have a0 := g 0 (by omega)
  have a1 := g 1 (by omega)
  have a2 := g 2 (by omega)
  have a3 := g 3 (by omega)
  have a4 := g 4 (by omega)
  have a5 := g 5 (by omega)
  have a6 := g 6 (by omega)
  have a7 := g 7 (by omega)
  have a8 := g 8 (by omega)
  have a9 := g 9 (by omega)
  have a10 := g 10 (by omega)
  have s1 := by4_sum r1.1 (by omega)
  have s2 := by4_sum r2.1 (by omega)
  have b0 : (encL w m).getD (11 * k) 0 = (w k).1 := by
    have : (encL w m).getD (11 * k) 0 = (w k).1 % 256 := a0
    omega
  have b1 : num4 (fun j => (encL w m).getD j 0) (11 * k + 1) = (w k).2.1 := by
    show (encL w m).getD (11 * k + 1) 0 + 256 * (encL w m).getD (11 * k + 2) 0 + 65536 * (encL w m).getD (11 * k + 3) 0 + 16777216 * (encL w m).getD (11 * k + 4) 0 = _
    rw [a1, a2, a3, a4]; exact s1
  have b2 : (encL w m).getD (11 * k + 5) 0 = (w k).2.2.1 := by
    have : (encL w m).getD (11 * k + 5) 0 = (w k).2.2.1 % 256 := a5
    omega
  have b3 : (encL w m).getD (11 * k + 6) 0 = (w k).2.2.2.1 := by
    have : (encL w m).getD (11 * k + 6) 0 = (w k).2.2.2.1 % 256 := a6
    omega
  have b4 : num4 (fun j => (encL w m).getD j 0) (11 * k + 7) = (w k).2.2.2.2 := by
    show (encL w m).getD (11 * k + 7) 0 + 256 * (encL w m).getD (11 * k + 8) 0 + 65536 * (encL w m).getD (11 * k + 9) 0 + 16777216 * (encL w m).getD (11 * k + 10) 0 = _
    rw [a7, a8, a9, a10]; exact s2
  show ((encL w m).getD (11 * k) 0, num4 (fun j => (encL w m).getD j 0) (11 * k + 1), (encL w m).getD (11 * k + 5) 0, (encL w m).getD (11 * k + 6) 0, num4 (fun j => (encL w m).getD j 0) (11 * k + 7)) = w k
  rw [b0, b1, b2, b3, b4]
/-- What was decoded has just those bytes. -/
theorem enc_dec {u : Nat → Int} {m : Nat} (h : ∀ i, i < 11 * m → 0 ≤ u i ∧ u i ≤ 255) {j : Nat} (hj : j < 11 * m) : (encL (decL u) m).getD j 0 = u j := by
  have e : j = 11 * (j / 11) + j % 11 := by omega
  have hr : j % 11 < 11 := by omega
  have hk : j / 11 < m := by omega
  generalize j / 11 = k at e hk
  generalize j % 11 = r at e hr
  subst e
  rw [encL_get _ m k r hk hr]
  have h' : ∀ r, r < 11 → 0 ≤ u (11 * k + r) ∧ u (11 * k + r) ≤ 255 := fun r hr => h _ (by omega)
  have n1 := by4_num (u := u) (p := 11 * k + 1) fun i h1 h2 => h i (by omega)
  have n7 := by4_num (u := u) (p := 11 * k + 7) fun i h1 h2 => h i (by omega)
  have m0 : u (11 * k) % 256 = u (11 * k) := by have : 0 ≤ u (11 * k) ∧ u (11 * k) ≤ 255 := h' 0 (by omega); omega
  have m5 : u (11 * k + 5) % 256 = u (11 * k + 5) := by have := h' 5 (by omega); omega
  have m6 : u (11 * k + 6) % 256 = u (11 * k + 6) := by have := h' 6 (by omega); omega
  rcases (by omega : r = 0 ∨ r = 1 ∨ r = 2 ∨ r = 3 ∨ r = 4 ∨ r = 5 ∨ r = 6 ∨ r = 7 ∨ r = 8 ∨ r = 9 ∨ r = 10) with rfl | rfl | rfl | rfl | rfl | rfl | rfl | rfl | rfl | rfl | rfl
  · exact m0
  · exact n1.1
  · exact n1.2.1
  · exact n1.2.2.1
  · exact n1.2.2.2
  · exact m5
  · exact m6
  · exact n7.1
  · exact n7.2.1
  · exact n7.2.2.1
  · exact n7.2.2.2
/-- What decoding says of what was encoded. -/
theorem dec_of_enc {w : Os} {m : Nat} (hE : okE m w = true) : errD (11 * m) (fun j => (encL w m).getD j 0) = 0 ∧ lenD (11 * m) (fun j => (encL w m).getD j 0) = m := by
  have h64 : m ≤ 64 := by unfold okE at hE; simp at hE; exact hE.1
  have hall : allO w m = true := by unfold okE at hE; simp at hE; exact hE.2
  have e1 : 11 * m / 11 = m := by omega
  obtain ⟨q1, _, q3⟩ := dec_good (n := 11 * m) (u := fun j => (encL w m).getD j 0) (by omega) (by omega) (fun j hj => by
    have hf := all_get hall (i := j) (by omega)
    unfold badD
    rw [dec_enc (by omega) hf, hf]; rfl)
  exact ⟨q1, by rw [q3, e1]⟩
theorem dec_cases (n : Nat) (u : Nat → Int) : (errD n u ≠ 0 ∧ lenD n u = 0) ∨ (errD n u = 0 ∧ n = 11 * lenD n u ∧ okE (lenD n u) (decL u) = true) := by
  by_cases h : n % 11 = 0
  · by_cases h2 : 64 < n / 11
    · obtain ⟨q1, _, q3⟩ := dec_extra (u := u) h h2
      exact .inl ⟨by rw [q1]; decide, q3⟩
    · rcases fst_spec (badD u) (n / 11) with ⟨h3, h4⟩ | ⟨h3, h4, h5⟩
      · obtain ⟨q1, _, q3⟩ := dec_good (u := u) h h2 h4
        refine .inr ⟨q1, by omega, ?_⟩
        rw [q3]
        have : allO (decL u) (n / 11) = true := all_true fun j hj => by
          have := h4 j hj
          unfold badD at this
          simpa using this
        unfold okE
        rw [this, Bool.and_true]
        exact decide_eq_true (by omega)
      · obtain ⟨q1, _, q3⟩ := dec_form (u := u) h h2 h3 h4 h5
        exact .inl ⟨by rw [q1]; decide, q3⟩
  · obtain ⟨q1, _, q3⟩ := dec_short (u := u) h
    exact .inl ⟨by rw [q1]; decide, q3⟩
end Go.Eng.S22
