/- Seat 13: what is waiting stays in bounds, in plain Lean; the costs as the code reckons them. -/
import Derived.Test.YtmlpggggahpoaaaEngX
import Derived.Test.YtmlpggggahpoaaaS13E
set_option linter.unusedSimpArgs false
set_option linter.unusedVariables false
namespace Go.Eng.S13
open Go.Proofs Go.IntWalk
set_option maxRecDepth 10000

def allP (P : Int × Int → Prop) (w : Ws) (n : Nat) : Prop := ∀ i, i < n → P (w i)
theorem allP.swp {P : Int × Int → Prop} {w : Ws} {n i j : Nat} (h : allP P w n) (hi : i < n) (hj : j < n) : allP P (swp w i j) n := by
  intro x hx
  unfold S13.swp
  cases x == j with
  | true => exact h i hi
  | false => cases x == i with
    | true => exact h j hj
    | false => exact h x hx
theorem upN_all {P : Int × Int → Prop} {n : Nat} : ∀ (f : Nat) {w : Ws} {k : Nat}, k < n → allP P w n → allP P (upN f w k) n
  | 0, w, k, _, h => h
  | f + 1, w, k, hk, h => by
    simp only [upN]
    cases hc : (Nat.blt 0 k && decide ((w k).2 < (w ((k - 1) / 2)).2)) with
    | true => exact upN_all f (by omega) (h.swp hk (by omega))
    | false => exact h
theorem push_all {P : Int × Int → Prop} {w : Ws} {n : Nat} {q : Int × Int} (h : allP P w n) (hq : P q) : allP P (pushW w n q) (n + 1) := by
  refine upN_all n (Nat.lt_succ_self n) fun i hi => ?_
  unfold addW
  by_cases e : i = n
  · subst e; simp; exact hq
  · have : (i == n) = false := by simpa using e
    rw [this]; exact h i (by omega)
theorem downN_all {P : Int × Int → Prop} {n : Nat} : ∀ (f : Nat) {w : Ws} {k : Nat}, allP P w n → allP P (downN f w n k) n
  | 0, w, k, h => h
  | f + 1, w, k, h => by
    simp only [downN]
    cases hc : (Nat.blt (2 * k + 1) n && decide ((w (chC w n k)).2 < (w k).2)) with
    | true =>
      have h1 : 2 * k + 1 < n := by
        rw [Bool.and_eq_true] at hc
        simpa [Nat.blt_eq] using hc.1
      have h2 := chC_rng (w := w) h1
      exact downN_all f (h.swp (by omega) h2.2.1)
    | false => exact h
theorem pop_all {P : Int × Int → Prop} {w : Ws} {l : Nat} (h : allP P w (l + 1)) : allP P (popW w l) l := by
  refine downN_all l fun i hi => ?_
  unfold set0
  cases i == 0 with
  | true => exact h l (by omega)
  | false => exact h i (by omega)

def cnt (o : Nat → Int) : Nat → Nat
  | 0 => 0
  | n + 1 => cnt o n + bif decide (0 ≤ o n) then 1 else 0
theorem cnt_le (o : Nat → Int) : ∀ n, cnt o n ≤ n
  | 0 => Nat.le_refl 0
  | n + 1 => by
    have := cnt_le o n
    simp only [cnt]
    cases decide (0 ≤ o n) <;> simp <;> omega
def setO (o : Nat → Int) (c : Nat) (v : Int) : Nat → Int := fun k => bif k == c then v else o k
theorem cnt_same {o o' : Nat → Int} : ∀ {n : Nat}, (∀ k, k < n → o k = o' k) → cnt o n = cnt o' n
  | 0, _ => rfl
  | n + 1, h => by simp only [cnt]; rw [cnt_same fun k hk => h k (by omega), h n (by omega)]
theorem cnt_set {o : Nat → Int} {c : Nat} {v : Int} (ho : o c < 0) (hv : 0 ≤ v) : ∀ {n : Nat}, c < n → cnt (setO o c v) n = cnt o n + 1
  | 0, h => by omega
  | n + 1, h => by
    simp only [cnt]
    by_cases e : c = n
    · subst e
      have h1 : cnt (setO o c v) c = cnt o c := cnt_same fun k hk => by
        unfold setO
        have : (k == c) = false := by simp; omega
        rw [this]; rfl
      have h2 : setO o c v c = v := by unfold setO; simp
      rw [h1, h2, decide_eq_true hv, decide_eq_false (by omega : ¬ 0 ≤ o c)]; rfl
    · have h1 := cnt_set (v := v) ho hv (n := n) (by omega)
      have h2 : setO o c v n = o n := by
        unfold setO
        have : (n == c) = false := by simp; omega
        rw [this]; rfl
      rw [h1, h2]; omega
theorem cnt_all (n : Nat) : cnt (fun _ => -1) n = 0 := by
  induction n with
  | zero => rfl
  | succ n ih => simp only [cnt, ih]; rfl

/-! The costs, as the code reckons them. -/
section
variable (W H : Int) (g : Nat → Bool)
def gs (c : Int) (s : Nat) : Int := goF W H g c (dI s) (dJ s)
def rlxC (o : Nat → Int) (c : Int) (s : Nat) : Bool := decide (0 ≤ gs W H g c s) && decide (o (gs W H g c s).toNat < 0)
def rlx (o : Nat → Int) (c v : Int) : Nat → Nat → Ws × Nat → Ws × Nat
  | 0, _, p => p
  | f + 1, s, p => rlx o c v f (s + 1) (bif rlxC W H g o c s then (pushW p.1 p.2 (gs W H g c s, v + prc s), p.2 + 1) else p)
def runD : Nat → (Nat → Int) → Ws → Nat → (Nat → Int)
  | 0, o, _, _ => o
  | f + 1, o, w, l => bif Nat.beq l 0 then o else bif decide (0 ≤ o (w 0).1.toNat) then runD f o (popW w (l - 1)) (l - 1) else
    runD f (setO o (w 0).1.toNat (w 0).2) (rlx W H g (setO o (w 0).1.toNat (w 0).2) (w 0).1 (w 0).2 8 0 (popW w (l - 1), l - 1)).1
      (rlx W H g (setO o (w 0).1.toNat (w 0).2) (w 0).1 (w 0).2 8 0 (popW w (l - 1), l - 1)).2
def costs (n : Nat) (t : Int) : Nat → Int := bif g t.toNat then runD W H g (9 * n + 1) (fun _ => -1) (fun _ => (t, 0)) 1 else fun _ => -1
end
theorem gs_rng {W H : Int} {g : Nat → Bool} {n : Nat} (hm : mayL W H n = true) {c : Int} {s : Nat} (hk : 0 ≤ c ∧ c < n) : -1 ≤ gs W H g c s ∧ gs W H g c s < n := by
  obtain ⟨hW, hH, hn, hn1, hn2⟩ := may_get hm
  obtain ⟨c1, c2, c3⟩ := cell_split hm hk
  unfold gs goF
  cases h : (opF W H g (c % W + dI s) (c / W + dJ s) && opF W H g (c % W + dI s) (c / W) && opF W H g (c % W) (c / W + dJ s)) with
  | false => exact ⟨Int.le_refl _, by show (-1 : Int) < n; omega⟩
  | true =>
    simp only [Bool.and_eq_true] at h
    have h1 := h.1.1
    unfold opF at h1
    simp only [Bool.and_eq_true, decide_eq_true_eq] at h1
    have h2 := cell_rng ⟨h1.1.1.1.1, h1.1.1.1.2⟩ ⟨h1.1.1.2, h1.1.2⟩
    have e : W * (c / W + dJ s) + (c % W + dI s) = c + dJ s * W + dI s := by rw [Int.mul_add, Int.mul_comm W (dJ s)]; omega
    rw [e] at h2
    show -1 ≤ c + dJ s * W + dI s ∧ c + dJ s * W + dI s < n
    omega
end Go.Eng.S13
