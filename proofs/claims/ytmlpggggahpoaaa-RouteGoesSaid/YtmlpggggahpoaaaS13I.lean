/- Seat 13: the document's costs, walked. -/
import Derived.Test.YtmlpggggahpoaaaEngX
import Derived.Test.YtmlpggggahpoaaaS13G
import Derived.Test.YtmlpggggahpoaaaS13R
set_option linter.unusedSimpArgs false
set_option linter.unusedVariables false
namespace Go.Eng.S13
open Go.Proofs Go.IntWalk
set_option maxRecDepth 10000

def pot (x : Int) : Nat := bif decide (0 ≤ x) then x.toNat else 100000
def tot (c : Nat → Int) : Nat → Nat
  | 0 => 0
  | n + 1 => tot c n + pot (c n)
theorem tot_same {c d : Nat → Int} : ∀ {n : Nat}, (∀ k, k < n → c k = d k) → tot c n = tot d n
  | 0, _ => rfl
  | n + 1, h => by simp only [tot]; rw [tot_same fun k hk => h k (by omega), h n (by omega)]
theorem tot_set {c : Nat → Int} {k : Nat} {v : Int} (h : pot v < pot (c k)) : ∀ {n : Nat}, k < n → tot (setO c k v) n < tot c n
  | 0, hk => by omega
  | n + 1, hk => by
    simp only [tot]
    by_cases e : k = n
    · subst e
      rw [setO_c, tot_same (c := setO c k v) (d := c) fun j hj => setO_o (by omega)]
      omega
    · have := tot_set h (n := n) (by omega)
      rw [setO_o (by omega : n ≠ k)]
      omega
structure RInv (W H : Int) (g : Nat → Bool) (n t : Nat) (c : Nat → Int) : Prop where
  way : ∀ k, k < n → 0 ≤ c k → g t = true ∧ Rch W H g t k (c k) ∧ c k ≤ 3 * (cnt c n : Int)
  one : g t = true → 0 ≤ c t ∧ c t ≤ 0
  low : ∀ k, c k < 0 → c k = -1
/-- Up to there no step betters anything. -/
def Cl (W H : Int) (g : Nat → Bool) (n : Nat) (c : Nat → Int) (k s : Nat) : Prop := ∀ k' s' q : Nat, k' < n → s' < 8 → (k' < k ∨ k' = k ∧ s' < s) → goR W H g k' s' = (q : Int) → 0 ≤ c q → 0 ≤ c k' ∧ c k' ≤ c q + prc s'
theorem Cl.row {W H : Int} {g : Nat → Bool} {n k : Nat} {c : Nat → Int} (h : Cl W H g n c k 8) : Cl W H g n c (k + 1) 0 := fun k' s' q a b d => h k' s' q a b (by omega)
theorem Cl.next {W H : Int} {g : Nat → Bool} {n k s : Nat} {c : Nat → Int} (h : Cl W H g n c k s) (h2 : ∀ q : Nat, goR W H g k s = (q : Int) → 0 ≤ c q → 0 ≤ c k ∧ c k ≤ c q + prc s) : Cl W H g n c k (s + 1) := fun k' s' q a b d e f => by
  by_cases hh : k' = k ∧ s' = s
  · obtain ⟨rfl, rfl⟩ := hh; exact h2 q e f
  · exact h k' s' q a b (by omega) e f
theorem RInv.done {W H : Int} {g : Nat → Bool} {n t : Nat} {c : Nat → Int} (hm : mayL W H n = true) (ht : t < n) (h : RInv W H g n t c) (hc : Cl W H g n c n 0) : ∀ k, k < n → c k = costs W H g n t k := by
  cases hg : g t with
  | true => exact ref_same hm ht hg (fun k hk h0 => (h.way k hk h0).2.1) (h.one hg) (fun k s q hk hs e h0 => hc k s q hk hs (.inl hk) e h0) h.low
  | false =>
    intro k hk
    have e : costs W H g n (t : Int) k = -1 := by unfold costs; rw [Int.toNat_natCast, hg]; rfl
    rw [e]
    by_cases h0 : 0 ≤ c k
    · have := (h.way k hk h0).1; rw [hg] at this; cases this
    · exact h.low k (by omega)
/-- A bettering keeps it. -/
theorem RInv.step {W H : Int} {g : Nat → Bool} {n t k s q : Nat} {c : Nat → Int} (hm : mayL W H n = true) (hk : k < n) (hs : s < 8) (h : RInv W H g n t c) (hq : goR W H g k s = (q : Int)) (hqn : q < n) (h0 : 0 ≤ c q) (hb : c k < 0 ∨ c q + prc s < c k) :
    RInv W H g n t (setO c k (c q + prc s)) ∧ tot (setO c k (c q + prc s)) n < tot c n := by
  obtain ⟨a1, a2, a3⟩ := h.way q hqn h0
  have hpr := prc_pos s
  have hcn := cnt_le c n
  have hgk : opn W H g k = true := by
    cases e : opn W H g k with
    | true => rfl
    | false => rw [goR_gs, e] at hq; simp only [cond_false] at hq; omega
  have hq' : gs W H g k s = (q : Int) := by rw [goR_gs, hgk] at hq; exact hq
  have hbk := step_back hm ⟨by omega, by omega⟩ hs hgk hq' (by omega)
  have way : Rch W H g t k (c q + prc s) := by
    have := Rch.step q (c q) (opp s) k a2 (opp_lt s) hbk.1
    rwa [(opp_d hs).2.2.1] at this
  have hcnt : (cnt c n : Int) ≤ cnt (setO c k (c q + prc s)) n ∧ (c k < 0 → (cnt (setO c k (c q + prc s)) n : Int) = cnt c n + 1) := by
    by_cases hck : c k < 0
    · have := cnt_set (v := c q + prc s) hck (by omega) hk
      omega
    · have : cnt (setO c k (c q + prc s)) n = cnt c n := by
        have key : ∀ m, m ≤ n → cnt (setO c k (c q + prc s)) m = cnt c m := by
          intro m
          induction m with
          | zero => intro _; rfl
          | succ m ih =>
            intro hm'
            simp only [cnt]
            rw [ih (by omega)]
            by_cases e : m = k
            · subst e; rw [setO_c, decide_eq_true (by omega : 0 ≤ c q + prc s), decide_eq_true (by omega : 0 ≤ c m)]
            · rw [setO_o e]
        exact key n (Nat.le_refl n)
      omega
  refine ⟨⟨fun j hj hj0 => ?_, fun hg => ?_, fun j hj => ?_⟩, tot_set ?_ hk⟩
  · by_cases e : j = k
    · subst e
      rw [setO_c]
      refine ⟨a1, way, ?_⟩
      by_cases hck : c j < 0
      · have := hcnt.2 hck; omega
      · have := (h.way j hj (by omega)).2.2
        rcases hb with hb | hb <;> omega
    · rw [setO_o e] at hj0 ⊢
      obtain ⟨b1, b2, b3⟩ := h.way j hj hj0
      exact ⟨b1, b2, by omega⟩
  · have ho := h.one hg
    by_cases e : t = k
    · subst e
      rcases hb with hb | hb <;> omega
    · rw [setO_o e]; exact ho
  · by_cases e : j = k
    · subst e; rw [setO_c] at hj; omega
    · rw [setO_o e] at hj ⊢; exact h.low j hj
  · unfold pot
    rw [decide_eq_true (by omega : 0 ≤ c q + prc s)]
    by_cases hck : 0 ≤ c k
    · rw [decide_eq_true hck]
      show (c q + prc s).toNat < (c k).toNat
      rcases hb with hb | hb <;> omega
    · rw [decide_eq_false hck]
      have hnn := (may_get hm).2.2.2.2
      show (c q + prc s).toNat < 100000
      omega
end Go.Eng.S13
