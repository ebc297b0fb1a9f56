/- Seat top, land: what strikes leave is no higher, and what was open stays open. Plain Lean. -/
import Derived.Test.YthfpdhhnokhldaaS27K
import Derived.Test.YthfpdhhnokhldaaEngT
set_option linter.unusedSimpArgs false
set_option linter.unusedVariables false
namespace Go.Eng
/-- Rows of four numbers that came. -/
def rowQ (f : Nat → List AV) : Nat → AV := S27.nH (S27.Hf fun i => ofSc (f i))
theorem rowQ_eq {w : World} {n : Nat} {f : Nat → List AV} {g : Nat → List Value} (h : ∀ i, i < n → DL w [.int .i64, .int .i64, .int .i64, .int .i64] (f i) (g i)) : (∀ i, i < n → ofSc (f i) = rowQ f i) ∧ True := by
  refine ⟨fun i hi => ?_, trivial⟩
  obtain ⟨a, as1, v, vs1, e1, _, h1, t1⟩ := (h i hi).head
  obtain ⟨b, as2, _, vs2, e2, _, h2, t2⟩ := t1.head
  obtain ⟨c, as3, _, vs3, e3, _, h3, t3⟩ := t2.head
  obtain ⟨d, as4, _, vs4, e4, _, h4, t4⟩ := t3.head
  obtain ⟨e5, _⟩ := t4.done
  obtain ⟨a, rfl, _, _⟩ := h1.int_inv
  obtain ⟨b, rfl, _, _⟩ := h2.int_inv
  obtain ⟨c, rfl, _, _⟩ := h3.int_inv
  obtain ⟨d, rfl, _, _⟩ := h4.int_inv
  show ofSc (f i) = S27.hitV (S27.hOf (ofSc (f i)))
  rw [e1, e2, e3, e4, e5]
  rfl
theorem rowU_isU {w : World} {n : Nat} {f : Nat → List AV} {g : Nat → List Value} (h : ∀ i, i < n → DL w [.int .u8] (f i) (g i)) : S27.IsU n (rowU f) := ⟨fun i hi => by
  refine ⟨rfl, ?_⟩
  have := (rowU_eq h).2 i hi
  show 0 ≤ iv (ofSc (f i)) ∧ iv (ofSc (f i)) ≤ 255
  generalize iv (ofSc (f i)) = z at this
  simp [Lit.wf] at this
  exact this⟩
end Go.Eng
namespace Go.Eng.S27
theorem hgt_mono {W H A : Int} {n : Nat} {u v : Nat → Int} {x y : Int} (h : ∀ k, k < n → v k ≤ u k) : hgtV W H A n v x y ≤ hgtV W H A n u x y := by
  unfold hgtV
  cases h1 : (chk W H A n != 0) with
  | true => exact Int.le_refl _
  | false =>
    cases h2 : onB W H A n x y with
    | false => exact Int.le_refl _
    | true =>
      have h0 : chk W H A n = 0 := by simpa using h1
      obtain ⟨_, hx, hy⟩ := onB_get h2
      obtain ⟨c1, c2, c3, c4⟩ := crn_rng h0 (i := x / 65536) (j := y / 65536) ⟨by omega, by omega⟩ ⟨by omega, by omega⟩
      show hgt W v x y ≤ hgt W u x y
      unfold hgt
      have a0 := h (crn W (x / 65536) (y / 65536)) (by omega)
      have a1 := h (crn W (x / 65536) (y / 65536) + 1) (by omega)
      have a2 := h (crn W (x / 65536) (y / 65536) + (W + 1).toNat) (by omega)
      have a3 := h (crn W (x / 65536) (y / 65536) + (W + 1).toNat + 1) (by omega)
      have hp : 0 ≤ 65536 - x % 65536 := by omega
      have hq : 0 ≤ x % 65536 := by omega
      have hr : 0 ≤ 65536 - y % 65536 := by omega
      have hs : 0 ≤ y % 65536 := by omega
      have b0 := Int.mul_le_mul_of_nonneg_right a0 hp
      have b1 := Int.mul_le_mul_of_nonneg_right a1 hq
      have b2 := Int.mul_le_mul_of_nonneg_right a2 hp
      have b3 := Int.mul_le_mul_of_nonneg_right a3 hq
      have d0 := Int.mul_le_mul_of_nonneg_right (Int.add_le_add b0 b1) hr
      have d1 := Int.mul_le_mul_of_nonneg_right (Int.add_le_add b2 b3) hs
      exact Int.ediv_le_ediv (by omega) (Int.add_le_add d0 d1)
theorem mn2_mono {a b c d : Int} (h1 : a ≤ c) (h2 : b ≤ d) : mn2 a b ≤ mn2 c d := by
  unfold mn2
  split <;> split <;> omega
theorem leastN_mono {c d : Nat → Int} : ∀ n, 0 < n → (∀ k, k < n → c k ≤ d k) → leastN c n ≤ leastN d n
  | 0, h, _ => by omega
  | 1, _, h => mn2_mono (h 0 (by omega)) (h 0 (by omega))
  | n + 2, _, h => mn2_mono (leastN_mono (n + 1) (by omega) fun k hk => h k (by omega)) (h (n + 1) (by omega))
theorem cellC_mono {W H A : Int} {n : Nat} {u v : Nat → Int} {i j : Int} (h : ∀ k, k < n → v k ≤ u k) (k : Nat) (hk : k < 4) : cellC W H A n v i j k ≤ cellC W H A n u i j k := by
  unfold cellC
  cases hc : (cellE W H A n i j == 0) with
  | false => exact Int.le_refl _
  | true =>
    have h0 : cellE W H A n i j = 0 := by simpa using hc
    obtain ⟨h1, h2⟩ := cellE_chk h0
    obtain ⟨hi, hj⟩ := inC_get h2
    obtain ⟨c1, c2, c3, c4⟩ := crn_rng h1 hi hj
    rcases (by omega : k = 0 ∨ k = 1 ∨ k = 2 ∨ k = 3) with rfl | rfl | rfl | rfl
    · exact h _ (by omega)
    · exact h _ (by omega)
    · exact h _ (by omega)
    · exact h _ (by omega)
theorem mx2_mono {a b : Int} (h : a ≤ b) : mx2 0 a ≤ mx2 0 b := by
  unfold mx2
  split <;> split <;> omega
theorem depV_mono {W H A : Int} {n : Nat} {u v : Nat → Int} {i j : Int} (h : ∀ k, k < n → v k ≤ u k) : depV W H A n u i j ≤ depV W H A n v i j := by
  unfold depV
  cases cellE W H A n i j != 0 with
  | true => exact Int.le_refl _
  | false =>
    have := leastN_mono 4 (by omega) fun k hk => cellC_mono (W := W) (H := H) (A := A) (i := i) (j := j) h k hk
    exact mx2_mono (by omega)
/-- What was open to ships stays so. -/
theorem ship_stays {W H A : Int} {n : Nat} {u v : Nat → Int} {i j : Int} (h : ∀ k, k < n → v k ≤ u k) (ho : openV W H A n u 2 i j = true) : openV W H A n v 2 i j = true := by
  unfold openV at ho ⊢
  cases h1 : rightB W H A n 2 with
  | false => rw [h1] at ho; cases ho
  | true =>
    rw [h1] at ho
    cases h2 : (cellE W H A n i j != 0) with
    | true => rw [h2] at ho; cases ho
    | false =>
      rw [h2] at ho
      have := depV_mono (W := W) (H := H) (A := A) (i := i) (j := j) h
      have ho : decide (16 ≤ depV W H A n u i j) = true := ho
      have ho := of_decide_eq_true ho
      show decide (16 ≤ depV W H A n v i j) = true
      exact decide_eq_true (by omega)
theorem openE_no {W H A : Int} {n : Nat} {k i j : Int} (h : chk W H A n = 0) (hk : 0 ≤ k ∧ k ≤ 5) (hi : 0 ≤ i ∧ i < W) (hj : 0 ≤ j ∧ j < H) : rightB W H A n k = true ∧ cellE W H A n i j = 0 ∧ openE W H A n k i j = 0 := by
  have h1 : rightB W H A n k = true := by
    unfold rightB
    rw [decide_eq_true hk.1, decide_eq_true hk.2, decide_eq_true h]; rfl
  have h2 : cellE W H A n i j = 0 := by
    unfold cellE inC
    rw [h, decide_eq_true hi.1, decide_eq_true hi.2, decide_eq_true hj.1, decide_eq_true hj.2]; rfl
  refine ⟨h1, h2, ?_⟩
  unfold openE
  rw [h1, h2]; rfl
theorem air_open {W H A : Int} {n : Nat} {u : Nat → Int} {i j : Int} (h : chk W H A n = 0) (hi : 0 ≤ i ∧ i < W) (hj : 0 ≤ j ∧ j < H) : openV W H A n u 5 i j = true := by
  obtain ⟨h1, h2, _⟩ := openE_no h (k := 5) (by omega) hi hj
  unfold openV
  rw [h1, h2]
  rfl
theorem low_one : lowers ⟨0, 0, 1, 3⟩ 0 0 = 3 := by decide
def cut20 (n : Nat) : Nat := bif Nat.blt 20 n then 20 else n
end Go.Eng.S27
