/- Seat 13: the costs as reckoned are the least ones. Plain Lean. -/
import Derived.Test.YtmlpggggahpoaaaS13P
set_option linter.unusedSimpArgs false
set_option linter.unusedVariables false
namespace Go.Eng.S13

section
variable {W H : Int} {g : Nat → Bool} {n : Nat}
/-- There is a way of steps from a cell, and it costs that. -/
inductive Rch (W H : Int) (g : Nat → Bool) (t : Nat) : Nat → Int → Prop
  | base : Rch W H g t t 0
  | step (c : Nat) (v : Int) (s q : Nat) (h : Rch W H g t c v) (hs : s < 8) (hq : gs W H g c s = (q : Int)) : Rch W H g t q (v + prc s)
theorem prc_pos (s : Nat) : 2 ≤ prc s ∧ prc s ≤ 3 := by unfold prc; omega
theorem Rch.nonneg {t k : Nat} {v : Int} (h : Rch W H g t k v) : 0 ≤ v := by
  induction h with
  | base => exact Int.le_refl 0
  | step c v s q _ _ _ ih => have := prc_pos s; omega
theorem rlx_len {o : Nat → Int} {c v : Int} : ∀ (f s : Nat) (p : Ws × Nat), (rlx W H g o c v f s p).2 ≤ p.2 + f
  | 0, s, p => Nat.le_refl _
  | f + 1, s, p => by
    simp only [rlx]
    cases rlxC W H g o c s with
    | false => have := rlx_len (o := o) (c := c) (v := v) f (s + 1) p; simp only [cond_false]; omega
    | true => have := rlx_len (o := o) (c := c) (v := v) f (s + 1) (pushW p.1 p.2 (gs W H g c s, v + prc s), p.2 + 1); simp only [cond_true]; simp only at this; omega
theorem setO_c {o : Nat → Int} {c : Nat} {v : Int} : setO o c v c = v := by unfold setO; simp
theorem setO_o {o : Nat → Int} {c k : Nat} {v : Int} (h : k ≠ c) : setO o c v k = o k := by
  unfold setO
  have : (k == c) = false := by simpa using h
  rw [this]; rfl
/-- What a round of pushes leaves. -/
theorem rlx_all {P : Int × Int → Prop} {o : Nat → Int} {c v : Int} : ∀ (f s : Nat) (p : Ws × Nat), Hp p.1 p.2 → allP P p.1 p.2 → (∀ s', s ≤ s' → s' < s + f → rlxC W H g o c s' = true → P (gs W H g c s', v + prc s')) →
    Hp (rlx W H g o c v f s p).1 (rlx W H g o c v f s p).2 ∧ allP P (rlx W H g o c v f s p).1 (rlx W H g o c v f s p).2 ∧ (∀ x, In p.1 p.2 x → In (rlx W H g o c v f s p).1 (rlx W H g o c v f s p).2 x) ∧
    ∀ s', s ≤ s' → s' < s + f → rlxC W H g o c s' = true → In (rlx W H g o c v f s p).1 (rlx W H g o c v f s p).2 (gs W H g c s', v + prc s')
  | 0, s, p, h1, h2, h3 => ⟨h1, h2, fun _ h => h, fun s' a b => by omega⟩
  | f + 1, s, p, h1, h2, h3 => by
    simp only [rlx]
    cases hc : rlxC W H g o c s with
    | false =>
      simp only [cond_false]
      obtain ⟨k1, k2, k3, k4⟩ := rlx_all f (s + 1) p h1 h2 fun s' a b => h3 s' (by omega) (by omega)
      refine ⟨k1, k2, k3, fun s' a b d => ?_⟩
      by_cases e : s' = s
      · subst e; rw [hc] at d; cases d
      · exact k4 s' (by omega) (by omega) d
    | true =>
      simp only [cond_true]
      obtain ⟨k1, k2, k3, k4⟩ := rlx_all f (s + 1) (pushW p.1 p.2 (gs W H g c s, v + prc s), p.2 + 1) (push_hp h1) (push_all h2 (h3 s (Nat.le_refl s) (by omega) hc)) fun s' a b => h3 s' (by omega) (by omega)
      refine ⟨k1, k2, fun x hx => k3 x (push_in (.inl hx)), fun s' a b d => ?_⟩
      by_cases e : s' = s
      · subst e; exact k3 _ (push_in (.inr rfl))
      · exact k4 s' (by omega) (by omega) d
/-- A cell is told, or waits, at no more than that. -/
def Cov (o : Nat → Int) (w : Ws) (l : Nat) (q : Nat) (b : Int) : Prop := (0 ≤ o q ∧ o q ≤ b) ∨ ∃ x, In w l x ∧ x.1 = (q : Int) ∧ x.2 ≤ b
structure DInv (W H : Int) (g : Nat → Bool) (n t : Nat) (o : Nat → Int) (w : Ws) (l : Nat) : Prop where
  told : ∀ k, k < n → 0 ≤ o k → Rch W H g t k (o k)
  wait : allP (fun x => (∃ k : Nat, k < n ∧ x.1 = (k : Int) ∧ Rch W H g t k x.2) ∧ ∀ k, k < n → 0 ≤ o k → o k ≤ x.2) w l
  hp : Hp w l
  next : ∀ c, c < n → 0 ≤ o c → ∀ s, s < 8 → ∀ q : Nat, gs W H g c s = (q : Int) → Cov o w l q (o c + prc s)
  one : Cov o w l t 0
  low : ∀ k, o k < 0 → o k = -1
theorem runD_inv (hm : mayL W H n = true) {t : Nat} : ∀ (f : Nat) {o : Nat → Int} {w : Ws} {l : Nat}, DInv W H g n t o w l → 9 * (n - cnt o n) + l ≤ f → ∃ o', runD W H g f o w l = o' ∧ DInv W H g n t o' (fun _ => (0, 0)) 0 := by
  intro f
  induction f with
  | zero =>
    intro o w l hi hf
    have hl : l = 0 := by omega
    subst hl
    refine ⟨o, rfl, hi.told, fun i h => by omega, fun i _ h => by omega, fun c a b s d q e => ?_, ?_, ?_⟩
    · rcases hi.next c a b s d q e with h | ⟨x, ⟨i, h, _⟩, _⟩
      · exact .inl h
      · omega
    · rcases hi.one with h | ⟨x, ⟨i, h, _⟩, _⟩
      · exact .inl h
      · omega
    · exact hi.low
  | succ f ih =>
    intro o w l hi hf
    cases l with
    | zero =>
      refine ⟨o, rfl, hi.told, fun i h => by omega, fun i _ h => by omega, fun c a b s d q e => ?_, ?_, ?_⟩
      · rcases hi.next c a b s d q e with h | ⟨x, ⟨i, h, _⟩, _⟩
        · exact .inl h
        · omega
      · rcases hi.one with h | ⟨x, ⟨i, h, _⟩, _⟩
        · exact .inl h
        · omega
      · exact hi.low
    | succ l =>
      obtain ⟨⟨c, hcn, hc1, hcr⟩, hc4⟩ := hi.wait 0 (by omega)
      have hmin : allP (fun x => (w 0).2 ≤ x.2) w (l + 1) := fun i h => hp_min hi.hp i h
      have hcv : (w 0).1.toNat = c := by rw [hc1]; exact Int.toNat_natCast c
      by_cases ho : 0 ≤ o c
      · have e : runD W H g (f + 1) o w (l + 1) = runD W H g f o (popW w l) l := by
          have e1 : Nat.beq (l + 1) 0 = false := rfl
          have e2 : decide (0 ≤ o (w 0).1.toNat) = true := decide_eq_true (by rw [hcv]; exact ho)
          simp only [runD, e1, e2, cond_false, cond_true, Nat.add_sub_cancel]
        rw [e]
        have cov : ∀ q b, Cov o w (l + 1) q b → Cov o (popW w l) l q b := by
          intro q b h
          rcases h with h | ⟨x, hx, h1, h2⟩
          · exact .inl h
          · rcases pop_in hx with rfl | hx
            · have : q = c := by rw [hc1] at h1; omega
              subst this
              exact .inl ⟨ho, Int.le_trans (hc4 q hcn ho) h2⟩
            · exact .inr ⟨x, hx, h1, h2⟩
        exact ih ⟨hi.told, pop_all hi.wait, pop_hp hi.hp, fun c a b s d q e => cov _ _ (hi.next c a b s d q e), cov _ _ hi.one, hi.low⟩ (by omega)
      · have er : runD W H g (f + 1) o w (l + 1) = runD W H g f (setO o c (w 0).2) (rlx W H g (setO o c (w 0).2) c (w 0).2 8 0 (popW w l, l)).1 (rlx W H g (setO o c (w 0).2) c (w 0).2 8 0 (popW w l, l)).2 := by
          have e1 : Nat.beq (l + 1) 0 = false := rfl
          have e2 : decide (0 ≤ o (w 0).1.toNat) = false := decide_eq_false (by rw [hcv]; exact ho)
          simp only [runD, e1, e2, cond_false, Nat.add_sub_cancel]
          rw [hcv, hc1]
        rw [er]
        clear er
        have hv0 := hcr.nonneg
        have hw0 : w 0 = ((c : Int), (w 0).2) := by rw [← hc1]
        generalize (w 0).2 = v at hcr hc4 hmin hv0 hw0
        have hcs := cnt_set (o := o) (c := c) (v := v) (by omega) hv0 hcn
        have hcl := cnt_le (setO o c v) n
        have hln := rlx_len (W := W) (H := H) (g := g) (o := setO o c v) (c := (c : Int)) (v := v) 8 0 (popW w l, l)
        have up : ∀ x : Int × Int, (∀ k, k < n → 0 ≤ o k → o k ≤ x.2) → v ≤ x.2 → ∀ k, k < n → 0 ≤ setO o c v k → setO o c v k ≤ x.2 := by
          intro x h1 h2 k hk h0
          by_cases hkc : k = c
          · subst hkc; rw [setO_c]; exact h2
          · rw [setO_o hkc] at h0 ⊢; exact h1 k hk h0
        have hall : allP (fun x => (∃ k : Nat, k < n ∧ x.1 = (k : Int) ∧ Rch W H g t k x.2) ∧ ∀ k, k < n → 0 ≤ setO o c v k → setO o c v k ≤ x.2) (popW w l) l := by
          refine pop_all fun i h => ?_
          obtain ⟨a, b⟩ := hi.wait i h
          exact ⟨a, up (w i) b (hmin i h)⟩
        have hps : ∀ s', 0 ≤ s' → s' < 0 + 8 → rlxC W H g (setO o c v) c s' = true → (fun x : Int × Int => (∃ k : Nat, k < n ∧ x.1 = (k : Int) ∧ Rch W H g t k x.2) ∧ ∀ k, k < n → 0 ≤ setO o c v k → setO o c v k ≤ x.2) (gs W H g c s', v + prc s') := by
          intro s' _ h8 hc
          unfold rlxC at hc
          simp only [Bool.and_eq_true, decide_eq_true_eq] at hc
          have hr := gs_rng (g := g) (s := s') hm (c := (c : Int)) ⟨by omega, by omega⟩
          have hpr := prc_pos s'
          refine ⟨⟨(gs W H g c s').toNat, by omega, by show gs W H g c s' = _; omega, .step c v s' _ hcr (by omega) (by omega)⟩, up (gs W H g c s', v + prc s') (fun k hk h0 => ?_) (by show v ≤ v + prc s'; omega)⟩
          have := hc4 k hk h0
          show o k ≤ v + prc s'
          omega
        obtain ⟨k1, k2, k3, k4⟩ := rlx_all 8 0 (popW w l, l) (pop_hp hi.hp) hall hps
        generalize rlx W H g (setO o c v) c v 8 0 (popW w l, l) = RR at k1 k2 k3 k4 hln
        have cov : ∀ q b, Cov o w (l + 1) q b → Cov (setO o c v) RR.1 RR.2 q b := by
          intro q b h
          rcases h with h | ⟨x, hx, h1, h2⟩
          · have : q ≠ c := fun e => ho (e ▸ h.1)
            exact .inl (by rw [setO_o this]; exact h)
          · rcases pop_in hx with rfl | hx
            · have : q = c := by rw [hw0] at h1; simp only at h1; omega
              subst this
              rw [hw0] at h2
              exact .inl (by rw [setO_c]; exact ⟨hv0, h2⟩)
            · exact .inr ⟨x, k3 x hx, h1, h2⟩
        refine ih ⟨fun k hk h0 => ?_, k2, k1, fun c' a b s d q e => ?_, cov _ _ hi.one, fun k h0 => ?_⟩ (by simp only at hln; omega)
        · by_cases hkc : k = c
          · subst hkc; rw [setO_c]; exact hcr
          · rw [setO_o hkc] at h0 ⊢; exact hi.told k hk h0
        · by_cases hcc : c' = c
          · subst hcc
            rw [setO_c]
            have hr := gs_rng (g := g) (s := s) hm (c := (c' : Int)) ⟨by omega, by omega⟩
            have hpr := prc_pos s
            by_cases hq : 0 ≤ setO o c' v q
            · refine .inl ⟨hq, ?_⟩
              have := up ((0 : Int), v) hc4 (Int.le_refl v) q (by omega) hq
              simp only at this
              omega
            · have hrc : rlxC W H g (setO o c' v) c' s = true := by
                unfold rlxC
                rw [e, Int.toNat_natCast]
                rw [decide_eq_true (by omega : (0 : Int) ≤ (q : Int)), decide_eq_true (by omega : setO o c' v q < 0)]; rfl
              exact .inr ⟨_, k4 s (Nat.zero_le s) (by omega) hrc, e, Int.le_refl _⟩
          · rw [setO_o hcc] at b ⊢
            exact cov _ _ (hi.next c' a b s d q e)
        · by_cases hkc : k = c
          · subst hkc; rw [setO_c] at h0; omega
          · rw [setO_o hkc] at h0 ⊢; exact hi.low k h0
/-- The costs that the code reckons: of a way each, and none is less. -/
theorem costs_least (hm : mayL W H n = true) {t : Nat} (ht : t < n) (hg : g t = true) :
    (∀ k, k < n → 0 ≤ costs W H g n t k → Rch W H g t k (costs W H g n t k)) ∧ (∀ k v, k < n → Rch W H g t k v → 0 ≤ costs W H g n t k ∧ costs W H g n t k ≤ v) ∧ ∀ k, costs W H g n t k < 0 → costs W H g n t k = -1 := by
  have e : costs W H g n (t : Int) = runD W H g (9 * n + 1) (fun _ => -1) (fun _ => ((t : Int), 0)) 1 := by
    unfold costs
    rw [Int.toNat_natCast, hg]; rfl
  have h0 : DInv W H g n t (fun _ => -1) (fun _ => ((t : Int), 0)) 1 := by
    refine ⟨fun k _ h => ?_, fun i hi => ⟨⟨t, ht, rfl, .base⟩, fun k _ h => ?_⟩, fun i _ h => by omega, fun c _ h => ?_, .inr ⟨((t : Int), 0), ⟨0, by omega, rfl⟩, rfl, Int.le_refl 0⟩, fun k _ => rfl⟩
    · exact absurd h (by decide)
    · exact absurd h (by decide)
    · exact absurd h (by decide)
  obtain ⟨o, h1, h2⟩ := runD_inv hm (9 * n + 1) h0 (by rw [cnt_all]; omega)
  rw [e, h1]
  have fin : ∀ q b, Cov o (fun _ => ((0 : Int), (0 : Int))) 0 q b → 0 ≤ o q ∧ o q ≤ b := by
    intro q b h
    rcases h with h | ⟨x, ⟨i, hi, _⟩, _⟩
    · exact h
    · omega
  have rng : ∀ k v, Rch W H g t k v → k < n ∧ 0 ≤ o k ∧ o k ≤ v := by
    intro k v h
    induction h with
    | base => exact ⟨ht, fin t 0 h2.one⟩
    | step c v s q _ hs hq ih =>
      have hr := gs_rng (g := g) (s := s) hm (c := (c : Int)) ⟨by omega, by omega⟩
      have := fin q _ (h2.next c ih.1 ih.2.1 s hs q hq)
      exact ⟨by omega, this.1, by omega⟩
  exact ⟨h2.told, fun k v _ h => (rng k v h).2, h2.low⟩
end
end Go.Eng.S13
