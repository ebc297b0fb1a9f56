/- Seat 13: the way, cell by cell. Plain Lean. -/
import Derived.Test.YtmlpggggahpoaaaS13R
import Derived.Test.YtmlpggggahpoaaaEngX
set_option linter.unusedSimpArgs false
set_option linter.unusedVariables false
namespace Go.Eng.S13

section
variable (W H : Int) (g : Nat → Bool) (A : Nat → Int)
/-- Does that step go on the way? -/
def onW (k s : Nat) : Bool := decide (0 ≤ gs W H g k s) && (A (gs W H g k s).toNat + prc s == A k)
/-- The next cell on the way. -/
def nxt (k : Nat) : Nat := (gs W H g k (fstN (onW W H g A k) 8)).toNat
def wayR (t : Nat) : Nat → Nat → List Int → List Int
  | 0, _, acc => acc
  | f + 1, k, acc => bif k == t then acc else wayR t f (nxt W H g A k) (acc ++ [(nxt W H g A k : Int)])
end
section
variable {W H : Int} {g : Nat → Bool} {n : Nat}
theorem onW_get {A : Nat → Int} {k s : Nat} (h : onW W H g A k s = true) : 0 ≤ gs W H g k s ∧ A (gs W H g k s).toNat + prc s = A k := by
  unfold onW at h
  simpa using h
/-- From a cell that is not the last one some step goes on, and the cost falls by the step's. -/
theorem nxt_ok (hm : mayL W H n = true) {t k : Nat} (ht : t < n) (hg : g t = true) (hk : k < n) (hkt : k ≠ t) (h0 : 0 ≤ costs W H g n t k) :
    fstN (onW W H g (costs W H g n t) k) 8 < 8 ∧ gs W H g k (fstN (onW W H g (costs W H g n t) k) 8) = (nxt W H g (costs W H g n t) k : Int) ∧ nxt W H g (costs W H g n t) k < n ∧
    0 ≤ costs W H g n t (nxt W H g (costs W H g n t) k) ∧ costs W H g n t (nxt W H g (costs W H g n t) k) + prc (fstN (onW W H g (costs W H g n t) k) 8) = costs W H g n t k := by
  obtain ⟨m1, m2, m3⟩ := costs_least hm ht hg
  have hr := m1 k hk h0
  have hex : ∃ s, s < 8 ∧ onW W H g (costs W H g n t) k s = true := by
    generalize hv : costs W H g n t k = v at hr
    cases hr with
    | base => exact absurd rfl hkt
    | step c v s q hc hs hq =>
      have hco := hc.opn hm ht hg
      have hb := step_back hm ⟨by omega, by omega⟩ hs hco.2 hq (by omega)
      have a1 := m2 c v hco.1 hc
      have a2 := m2 k _ hk (.step c _ s k (m1 c hco.1 a1.1) hs hq)
      refine ⟨opp s, opp_lt s, ?_⟩
      unfold onW
      rw [hb.1, Int.toNat_natCast, (opp_d hs).2.2.1, hv, decide_eq_true (by omega : (0 : Int) ≤ (c : Int))]
      have : costs W H g n t c + prc s = v + prc s := by omega
      simp [this]
  rcases fst_spec (onW W H g (costs W H g n t) k) 8 with ⟨h1, h2⟩ | ⟨h1, h2, _⟩
  · obtain ⟨s, hs, ho⟩ := hex
    rw [h2 s hs] at ho; cases ho
  · have h3 := onW_get h2
    have hrg := gs_rng (g := g) (s := fstN (onW W H g (costs W H g n t) k) 8) hm (c := (k : Int)) ⟨by omega, by omega⟩
    have e : gs W H g k (fstN (onW W H g (costs W H g n t) k) 8) = (nxt W H g (costs W H g n t) k : Int) := by unfold nxt; omega
    have hn : nxt W H g (costs W H g n t) k < n := by omega
    have hx := m2 _ _ hn (.step k _ _ _ hr h1 e)
    refine ⟨h1, e, hn, hx.1, ?_⟩
    have h4 := h3.2
    rw [e, Int.toNat_natCast] at h4
    exact h4
end
end Go.Eng.S13
