/- Seat 15: the plain law: who settles where, without Go and memory. -/
import Derived.Test.YtfpconjpgaddkaaS15A
set_option linter.unusedSimpArgs false
set_option linter.unusedVariables false
namespace Go.Eng.S15

abbrev Se := (Nat → Int) × (Nat → Bool)
variable (q : Nat → Bool) (x : Nat → Int) (n : Nat)

def occ (n : Nat) (w : Nat → Int) (c : Int) : Bool := (List.range n).any fun j => w j == c
def go1 (s : Se) (i : Nat) : Bool := !s.2 i && (s.1 i != -1) && (x i != -1) && q (x i).toNat && !occ n s.1 (x i)
def st1 (s : Se) (i : Nat) : Se := bif go1 q x n s i then (fun j => bif j == i then x i else s.1 j, fun j => bif j == i then true else s.2 j) else s
def part (s : Se) : Nat → Se
  | 0 => s
  | k + 1 => st1 q x n (part s k) k
def chg (s : Se) : Nat → Bool
  | 0 => false
  | k + 1 => chg s k || go1 q x n (part q x n s k) k
def rnds (s : Se) : Nat → Se
  | 0 => s
  | r + 1 => part q x n (rnds s r) n
def gone : Nat → (Nat → Bool) → Nat
  | 0, _ => 0
  | k + 1, g => bif g k then gone k g + 1 else gone k g

theorem gone_le (k : Nat) (g : Nat → Bool) : gone k g ≤ k := by
  induction k with
  | zero => exact Nat.le_refl _
  | succ k ih => simp only [gone]; cases g k <;> simp <;> omega
theorem gone_congr {k : Nat} {g g' : Nat → Bool} (h : ∀ i, i < k → g i = g' i) : gone k g = gone k g' := by
  induction k with
  | zero => rfl
  | succ k ih => simp only [gone]; rw [h k (by omega), ih fun i hi => h i (by omega)]
theorem gone_set {k i : Nat} {g g' : Nat → Bool} (hi : i < k) (h0 : g i = false) (h1 : g' i = true) (h : ∀ j, j ≠ i → g' j = g j) : gone k g' = gone k g + 1 := by
  induction k with
  | zero => omega
  | succ k ih =>
    simp only [gone]
    by_cases e : i = k
    · subst e
      rw [h0, h1, gone_congr fun j hj => h j (by omega)]; rfl
    · rw [h k (fun q => e q.symm), ih (by omega)]
      cases g k <;> simp

variable {q x n}
theorem st1_yes {s : Se} {i : Nat} (h : go1 q x n s i = true) : st1 q x n s i = (fun j => bif j == i then x i else s.1 j, fun j => bif j == i then true else s.2 j) := by unfold st1; rw [h]; rfl
theorem st1_no {s : Se} {i : Nat} (h : go1 q x n s i = false) : st1 q x n s i = s := by unfold st1; rw [h]; rfl
theorem go1_spec {s : Se} {i : Nat} : go1 q x n s i = true ↔ s.2 i = false ∧ s.1 i ≠ -1 ∧ x i ≠ -1 ∧ q (x i).toNat = true ∧ ∀ j, j < n → s.1 j ≠ x i := by
  unfold go1 occ
  simp only [Bool.and_eq_true, Bool.not_eq_true', bne_iff_ne, ne_eq, List.any_eq_false, List.mem_range, beq_iff_eq]
  exact ⟨fun ⟨⟨⟨⟨a, b⟩, c⟩, d⟩, e⟩ => ⟨a, b, c, d, e⟩, fun ⟨a, b, c, d, e⟩ => ⟨⟨⟨⟨a, b⟩, c⟩, d⟩, e⟩⟩
theorem occ_iff {w : Nat → Int} {c : Int} : occ n w c = true ↔ ∃ j, j < n ∧ w j = c := by
  unfold occ
  simp only [List.any_eq_true, List.mem_range, beq_iff_eq]

theorem gone_st1 (s : Se) {i : Nat} (hi : i < n) : gone n (st1 q x n s i).2 = gone n s.2 + bif go1 q x n s i then 1 else 0 := by
  cases h : go1 q x n s i with
  | true =>
    rw [st1_yes h]
    exact gone_set hi (go1_spec.1 h).1 (by simp) (fun j hj => by have : (j == i) = false := by simpa using hj
                                                                 simp [this])
  | false => rw [st1_no h]; rfl
theorem gone_part (s : Se) {k : Nat} (hk : k ≤ n) : gone n s.2 ≤ gone n (part q x n s k).2 ∧ (chg q x n s k = true → gone n s.2 + 1 ≤ gone n (part q x n s k).2) := by
  induction k with
  | zero => exact ⟨Nat.le_refl _, fun h => by cases h⟩
  | succ k ih =>
    obtain ⟨h1, h2⟩ := ih (by omega)
    have e : part q x n s (k + 1) = st1 q x n (part q x n s k) k := rfl
    rw [e, gone_st1 _ (by omega : k < n)]
    refine ⟨by omega, fun hc => ?_⟩
    simp only [chg, Bool.or_eq_true] at hc
    rcases hc with hc | hc
    · have := h2 hc; omega
    · rw [hc]; simp; omega
theorem part_same {s : Se} {k : Nat} (h : chg q x n s k = false) : part q x n s k = s := by
  induction k with
  | zero => rfl
  | succ k ih =>
    simp only [chg, Bool.or_eq_false_iff] at h
    have e : part q x n s (k + 1) = st1 q x n (part q x n s k) k := rfl
    rw [e, st1_no h.2, ih h.1]
theorem chg_go {s : Se} {k i : Nat} (h : chg q x n s k = false) (hi : i < k) : go1 q x n s i = false := by
  induction k with
  | zero => omega
  | succ k ih =>
    simp only [chg, Bool.or_eq_false_iff] at h
    rcases Nat.lt_or_ge i k with h1 | h1
    · exact ih h.1 h1
    · have : i = k := by omega
      subst this
      rw [part_same h.1] at h; exact h.2
/-- A state that turns no more. -/
def Fin (q : Nat → Bool) (x : Nat → Int) (n : Nat) (s : Se) : Prop := chg q x n s n = false
theorem Fin.rnd {s : Se} (h : Fin q x n s) : part q x n s n = s := part_same h
theorem Fin.of {s : Se} (h : ∀ i, i < n → go1 q x n s i = false) : Fin q x n s := by
  have : ∀ k, k ≤ n → chg q x n s k = false ∧ part q x n s k = s := by
    intro k
    induction k with
    | zero => intro _; exact ⟨rfl, rfl⟩
    | succ k ih =>
      intro hk
      obtain ⟨h1, h2⟩ := ih (by omega)
      have e : part q x n s (k + 1) = st1 q x n (part q x n s k) k := rfl
      have e2 : chg q x n s (k + 1) = (chg q x n s k || go1 q x n (part q x n s k) k) := rfl
      rw [e, e2, h1, h2, h k (by omega)]
      exact ⟨rfl, st1_no (h k (by omega))⟩
  exact (this n (Nat.le_refl _)).1
theorem rnds_stay {s : Se} {r : Nat} (h : Fin q x n (rnds q x n s r)) (k : Nat) : rnds q x n s (r + k) = rnds q x n s r := by
  induction k with
  | zero => rfl
  | succ k ih =>
    show part q x n (rnds q x n s (r + k)) n = _
    rw [ih]; exact h.rnd
theorem rnds_gone (s : Se) (r : Nat) : Fin q x n (rnds q x n s r) ∨ r + 1 ≤ gone n (rnds q x n s (r + 1)).2 := by
  induction r with
  | zero =>
    cases h : chg q x n s n with
    | false => exact .inl h
    | true => have := (gone_part (q := q) (x := x) s (Nat.le_refl n)).2 h; exact .inr (by show 0 + 1 ≤ gone n (part q x n s n).2; omega)
  | succ r ih =>
    rcases ih with h | h
    · left
      have := rnds_stay h 1
      rw [this]; exact h
    · cases hc : chg q x n (rnds q x n s (r + 1)) n with
      | false => exact .inl hc
      | true =>
        have := (gone_part (q := q) (x := x) (rnds q x n s (r + 1)) (Nat.le_refl n)).2 hc
        right
        show r + 1 + 1 ≤ gone n (part q x n (rnds q x n s (r + 1)) n).2
        omega
theorem rnds_fin (s : Se) : Fin q x n (rnds q x n s n) := by
  rcases rnds_gone (q := q) (x := x) (n := n) s n with h | h
  · exact h
  · have := gone_le n (rnds q x n s (n + 1)).2; omega
/-- Where all are in the end, and who has gone. -/
def setF (q : Nat → Bool) (x : Nat → Int) (n : Nat) (w : Nat → Int) : Se := rnds q x n (w, fun _ => false) (n + 1)
theorem setF_of {w : Nat → Int} {r : Nat} (h : Fin q x n (rnds q x n (w, fun _ => false) r)) (hr : r ≤ n + 1) : rnds q x n (w, fun _ => false) r = setF q x n w := by
  have := rnds_stay h (n + 1 - r)
  rw [show r + (n + 1 - r) = n + 1 by omega] at this
  exact this.symm
theorem setF_fin (w : Nat → Int) : Fin q x n (setF q x n w) := by
  have h := rnds_fin (q := q) (x := x) (n := n) (w, fun _ => false)
  have : setF q x n w = rnds q x n (w, fun _ => false) n := rnds_stay h 1
  rw [this]; exact h
theorem setF_id {w : Nat → Int} (h : ∀ i, i < n → go1 q x n (w, fun _ => false) i = false) : setF q x n w = (w, fun _ => false) :=
  (setF_of (r := 0) (Fin.of h) (by omega)).symm

/-- What is so all the while. -/
structure Ok (c : Int) (q : Nat → Bool) (x : Nat → Int) (n : Nat) (w0 : Nat → Int) (s : Se) : Prop where
  rng : ∀ i, i < n → -1 ≤ s.1 i ∧ s.1 i < c
  dist : ∀ i j, i < n → j < n → i ≠ j → s.1 i ≠ -1 → s.1 i ≠ s.1 j
  gone : ∀ i, i < n → s.2 i = true → s.1 i = x i ∧ x i ≠ -1 ∧ q (x i).toNat = true
  stay : ∀ i, i < n → s.2 i = false → s.1 i = w0 i
theorem Ok.st1 {c : Int} {w0 : Nat → Int} {s : Se} (h : Ok c q x n w0 s) (hx : ∀ i, i < n → -1 ≤ x i ∧ x i < c) {i : Nat} (hi : i < n) : Ok c q x n w0 (st1 q x n s i) := by
  cases hg : go1 q x n s i with
  | false => rw [st1_no hg]; exact h
  | true =>
    obtain ⟨h1, h2, h3, h4, h5⟩ := go1_spec.1 hg
    rw [st1_yes hg]
    have e1 : ∀ j, (bif j == i then x i else s.1 j) = if j = i then x i else s.1 j := fun j => by
      by_cases e : j = i
      · subst e; simp
      · have : (j == i) = false := by simpa using e
        simp [this, e]
    have e2 : ∀ j, (bif j == i then true else s.2 j) = if j = i then true else s.2 j := fun j => by
      by_cases e : j = i
      · subst e; simp
      · have : (j == i) = false := by simpa using e
        simp [this, e]
    refine ⟨fun j hj => ?_, fun j k hj hk hne h6 => ?_, fun j hj h6 => ?_, fun j hj h6 => ?_⟩
    · simp only [e1]
      split
      · exact hx i hi
      · exact h.rng j hj
    · simp only [e1] at h6 ⊢
      by_cases ej : j = i
      · have ek : k ≠ i := fun e => hne (ej.trans e.symm)
        rw [if_pos ej, if_neg ek]
        exact fun e => h5 k hk e.symm
      · rw [if_neg ej] at h6 ⊢
        by_cases ek : k = i
        · rw [if_pos ek]; exact h5 j hj
        · rw [if_neg ek]; exact h.dist j k hj hk hne h6
    · simp only [e1, e2] at h6 ⊢
      by_cases ej : j = i
      · subst ej; rw [if_pos rfl]; exact ⟨rfl, h3, h4⟩
      · rw [if_neg ej] at h6 ⊢; exact h.gone j hj h6
    · simp only [e1, e2] at h6 ⊢
      by_cases ej : j = i
      · rw [if_pos ej] at h6; cases h6
      · rw [if_neg ej] at h6 ⊢; exact h.stay j hj h6
theorem Ok.part {c : Int} {w0 : Nat → Int} {s : Se} (h : Ok c q x n w0 s) (hx : ∀ i, i < n → -1 ≤ x i ∧ x i < c) {k : Nat} (hk : k ≤ n) : Ok c q x n w0 (part q x n s k) := by
  induction k with
  | zero => exact h
  | succ k ih => exact (ih (by omega)).st1 hx (by omega)
theorem Ok.rnds {c : Int} {w0 : Nat → Int} {s : Se} (h : Ok c q x n w0 s) (hx : ∀ i, i < n → -1 ≤ x i ∧ x i < c) (r : Nat) : Ok c q x n w0 (rnds q x n s r) := by
  induction r with
  | zero => exact h
  | succ r ih => exact ih.part hx (Nat.le_refl _)

/-- What may be, said out. -/
theorem chk_zero {c : Int} {no nw nx : Nat} {w x : Nat → Int} (h : chkF c no nw nx w x = 0) :
    (1 ≤ c ∧ c ≤ 4096 ∧ (no : Int) = c ∧ nw ≤ 64 ∧ nx = nw) ∧ (∀ i, i < nw → -1 ≤ w i ∧ w i < c ∧ -1 ≤ x i ∧ x i < c) ∧ ∀ i j, i < nw → j < nw → i ≠ j → w i ≠ -1 → w i ≠ w j := by
  unfold chkF at h
  cases ha : argOK c no nw nx with
  | false => rw [ha] at h; simp at h
  | true =>
    rw [ha] at h
    cases hr : (List.range nw).all (rngOK c w x) with
    | false => rw [hr] at h; simp at h
    | true =>
      rw [hr] at h
      cases hd : dupN w nw with
      | true => rw [hd] at h; simp at h
      | false =>
        have ha2 : 1 ≤ c ∧ c ≤ 4096 ∧ (no : Int) = c ∧ nw ≤ 64 ∧ nx = nw := by
          simp only [argOK, Bool.and_eq_true, decide_eq_true_eq, beq_iff_eq] at ha
          omega
        have hr2 : ∀ i, i < nw → -1 ≤ w i ∧ w i < c ∧ -1 ≤ x i ∧ x i < c := fun i hi => by
          have := all_get hr hi
          simp only [rngOK, Bool.and_eq_true, decide_eq_true_eq] at this
          omega
        refine ⟨ha2, hr2, ?_⟩
        have key : ∀ i j, i < nw → j < i → w i ≠ -1 → w j ≠ w i := by
          intro i j hi hj hne e
          unfold dupN at hd
          have h1 := List.any_eq_false.1 hd i (List.mem_range.2 hi)
          apply h1
          have h2 := (hr2 i hi).1
          simp only [Bool.and_eq_true, decide_eq_true_eq, List.any_eq_true, List.mem_range, beq_iff_eq]
          exact ⟨by omega, j, hj, e⟩
        intro i j hi hj hne h1 e
        rcases Nat.lt_or_gt_of_ne hne with h2 | h2
        · exact key j i hj h2 (by rw [← e]; exact h1) e
        · exact key i j hi h2 h1 e.symm
theorem chk_range (c : Int) (no nw nx : Nat) (w x : Nat → Int) : 0 ≤ chkF c no nw nx w x ∧ chkF c no nw nx w x ≤ 5 := by
  unfold chkF
  cases argOK c no nw nx <;> cases (List.range nw).all (rngOK c w x) <;> cases dupN w nw <;> simp
theorem Ok.start {c : Int} {no nw nx : Nat} {w x : Nat → Int} {q : Nat → Bool} (h : chkF c no nw nx w x = 0) : Ok c q x nw w (w, fun _ => false) := by
  obtain ⟨_, h2, h3⟩ := chk_zero h
  exact ⟨fun i hi => ⟨(h2 i hi).1, (h2 i hi).2.1⟩, h3, fun i _ h => (by cases h), fun i _ _ => rfl⟩
theorem chk_of {c : Int} {no nw nx : Nat} {w x : Nat → Int} (h1 : 1 ≤ c ∧ c ≤ 4096 ∧ (no : Int) = c ∧ nw ≤ 64 ∧ nx = nw) (h2 : ∀ i, i < nw → -1 ≤ w i ∧ w i < c ∧ -1 ≤ x i ∧ x i < c) (h3 : ∀ i j, i < nw → j < nw → i ≠ j → w i ≠ -1 → w i ≠ w j) : chkF c no nw nx w x = 0 := by
  have ha : argOK c no nw nx = true := by
    simp only [argOK, Bool.and_eq_true, decide_eq_true_eq, beq_iff_eq]; omega
  have hr : (List.range nw).all (rngOK c w x) = true := all_true fun i hi => by
    have := h2 i hi
    simp only [rngOK, Bool.and_eq_true, decide_eq_true_eq]; omega
  have hd : dupN w nw = false := by
    unfold dupN
    refine List.any_eq_false.2 fun i hi h => ?_
    simp only [Bool.and_eq_true, decide_eq_true_eq, List.any_eq_true, List.mem_range, beq_iff_eq] at h
    obtain ⟨h4, j, hj, h5⟩ := h
    have hi := List.mem_range.1 hi
    exact h3 i j hi (by omega) (by omega) (by omega) h5.symm
  unfold chkF; rw [ha, hr, hd]; rfl

/-- A map of numbers. -/
def IntM (es : List (List Int × AV)) : Prop := ∀ e ∈ es, ∃ m, e.2 = .int .i64 m
theorem IntM.flat {es : List (List Int × AV)} (h : IntM es) : FlatM es := fun e he => by
  obtain ⟨m, hm⟩ := h e he
  rw [hm]; exact .int _ _
theorem IntM.put {es : List (List Int × AV)} (h : IntM es) {k : List Int} {m : Int} : IntM (mput es k (.int .i64 m)) := by
  induction es with
  | nil => intro y hy; simp only [mput, List.mem_singleton] at hy; subst hy; exact ⟨m, rfl⟩
  | cons e es ih =>
    intro y hy
    cases h2 : (k == e.1) with
    | true =>
      simp only [mput, h2, cond_true] at hy
      rcases List.mem_cons.1 hy with rfl | hy
      · exact ⟨m, rfl⟩
      · exact h y (List.mem_cons_of_mem _ hy)
    | false =>
      simp only [mput, h2, cond_false] at hy
      rcases List.mem_cons.1 hy with rfl | hy
      · exact h _ List.mem_cons_self
      · exact ih (fun z hz => h z (List.mem_cons_of_mem _ hz)) y hy
theorem IntM.del {es : List (List Int × AV)} (h : IntM es) {k : List Int} : IntM (mdel es k) := fun e he => h e (mdel_sub e he)
theorem IntM.get {es : List (List Int × AV)} (h : IntM es) (k : List Int) (z : Int) : (mget es k).getD (.int .i64 z) = .int .i64 (iv ((mget es k).getD (.int .i64 z))) := by
  cases hm : mget es k with
  | none => rfl
  | some v =>
    obtain ⟨m, hm2⟩ := h _ (mget_mem hm)
    simp only at hm2
    rw [hm2]; rfl
theorem stE_int (w : Nat → Int) : ∀ k, IntM (stE w k)
  | 0 => fun e he => by cases he
  | k + 1 => by
    cases h : (w k != -1) with
    | true => rw [stE_yes h]; exact (stE_int w k).put
    | false => rw [stE_no h]; exact stE_int w k
/-- The rounds from the start. -/
def R (q : Nat → Bool) (x : Nat → Int) (n : Nat) (w : Nat → Int) (r : Nat) : Se := rnds q x n (w, fun _ => false) r
/-- What is so ahead of a round. -/
structure Lo (q : Nat → Bool) (x : Nat → Int) (n : Nat) (w : Nat → Int) (r : Nat) (b : Bool) : Prop where
  le : r ≤ n + 1
  yes : b = true → r ≤ gone n (R q x n w r).2
  no : b = false → Fin q x n (R q x n w r)
theorem Lo.start (w : Nat → Int) : Lo q x n w 0 true := ⟨Nat.zero_le _, fun _ => Nat.zero_le _, fun h => by cases h⟩
theorem Lo.next {w : Nat → Int} {r : Nat} (h : Lo q x n w r true) : r ≤ n ∧ Lo q x n w (r + 1) (chg q x n (R q x n w r) n) := by
  have h1 := h.yes rfl
  have h2 := gone_le n (R q x n w r).2
  refine ⟨by omega, by omega, fun hc => ?_, fun hc => ?_⟩
  · have := (gone_part (q := q) (x := x) (R q x n w r) (Nat.le_refl n)).2 hc
    show r + 1 ≤ gone n (part q x n (R q x n w r) n).2
    omega
  · show Fin q x n (part q x n (R q x n w r) n)
    have hc : Fin q x n (R q x n w r) := hc
    rw [hc.rnd]; exact hc
theorem Lo.stop {w : Nat → Int} {r : Nat} (h : Lo q x n w r false) : R q x n w r = setF q x n w := setF_of (h.no rfl) h.le
/-- What the map says. -/
structure MI (n : Nat) (es : List (List Int × AV)) (w : Nat → Int) : Prop where
  nd : ND es
  fl : IntM es
  has : ∀ c : Int, (mget es [c]).isSome = true ↔ c ≠ -1 ∧ ∃ j, j < n ∧ w j = c
theorem stE_nd (w : Nat → Int) : ∀ k, ND (stE w k)
  | 0 => List.nodup_nil
  | k + 1 => by
    cases h : (w k != -1) with
    | true => rw [stE_yes h]; exact (stE_nd w k).put _ _
    | false => rw [stE_no h]; exact stE_nd w k
theorem MI.start (n : Nat) (w : Nat → Int) : MI n (stE w n) w := ⟨stE_nd w n, stE_int w n, has_iff w n⟩
theorem MI.occ {es : List (List Int × AV)} {w : Nat → Int} (h : MI n es w) {c : Int} (hc : c ≠ -1) : (mget es [c]).isSome = occ n w c := by
  rw [Bool.eq_iff_iff, h.has, occ_iff]
  exact ⟨fun h => h.2, fun h => ⟨hc, h⟩⟩
theorem MI.go {c : Int} {w0 : Nat → Int} {s : Se} {es : List (List Int × AV)} (h : MI n es s.1) (ho : Ok c q x n w0 s) {i : Nat} (hi : i < n) (hg : go1 q x n s i = true) (v : Int) :
    MI n (mput (mdel es [s.1 i]) [x i] (.int .i64 v)) (st1 q x n s i).1 := by
  obtain ⟨h1, h2, h3, h4, h5⟩ := go1_spec.1 hg
  refine ⟨(h.nd.del _).put _ _, h.fl.del.put, fun c => ?_⟩
  rw [st1_yes hg, mget_put]
  have e1 : ∀ j, (bif j == i then x i else s.1 j) = if j = i then x i else s.1 j := fun j => by
    by_cases e : j = i
    · subst e; simp
    · have : (j == i) = false := by simpa using e
      simp [this, e]
  simp only [e1]
  by_cases e : c = x i
  · subst e
    rw [if_pos rfl]
    simp only [Option.isSome_some, true_iff]
    exact ⟨h3, i, hi, by simp⟩
  · rw [if_neg (by simpa using e), mget_del h.nd]
    by_cases e2 : c = s.1 i
    · subst e2
      rw [if_pos rfl]
      simp only [Option.isSome_none, Bool.false_eq_true, false_iff]
      rintro ⟨_, j, hj, h6⟩
      by_cases ej : j = i
      · rw [if_pos ej] at h6; exact e h6.symm
      · rw [if_neg ej] at h6
        exact ho.dist i j hi hj (fun h => ej h.symm) h2 h6.symm
    · rw [if_neg (by simpa using e2), h.has]
      constructor
      · rintro ⟨a, j, hj, h6⟩
        have ej : j ≠ i := fun h => by subst h; exact e2 h6.symm
        exact ⟨a, j, hj, by rw [if_neg ej]; exact h6⟩
      · rintro ⟨a, j, hj, h6⟩
        by_cases ej : j = i
        · rw [if_pos ej] at h6; exact absurd h6.symm e
        · rw [if_neg ej] at h6; exact ⟨a, j, hj, h6⟩
end Go.Eng.S15
