/- Seat 12: squares and who is in them: plain. -/
import Derived.Test.YtkcigkoocimnlaaS12F
set_option linter.unusedSimpArgs false
set_option linter.unusedVariables false
namespace Go.Eng.S12
open Go.Proofs Go.IntWalk

theorem kget_put {α : Type} (S : List (Sp × α)) (a b c d : Int) (v : α) : kget (kput S a b v) c d = if c = a ∧ d = b then some v else kget S c d := by
  induction S with
  | nil =>
    show (bif c == a && d == b then some v else none) = _
    by_cases h : c = a ∧ d = b
    · rw [if_pos h, h.1, h.2]; simp
    · rw [if_neg h]
      cases hb : (c == a && d == b) with
      | false => rfl
      | true => simp at hb; exact absurd hb h
  | cons e S ih =>
    show kget (bif a == e.1.1 && b == e.1.2 then ((a, b), v) :: S else e :: kput S a b v) c d = _
    cases he : (a == e.1.1 && b == e.1.2) with
    | true =>
      simp at he
      rw [cond_true]
      show (bif c == a && d == b then some v else kget S c d) = if c = a ∧ d = b then some v else (bif c == e.1.1 && d == e.1.2 then some e.2 else kget S c d)
      rw [← he.1, ← he.2]
      by_cases h : c = a ∧ d = b
      · rw [if_pos h, h.1, h.2]; simp
      · rw [if_neg h]
        cases hb : (c == a && d == b) with
        | false => rfl
        | true => simp at hb; exact absurd hb h
    | false =>
      rw [cond_false]
      show (bif c == e.1.1 && d == e.1.2 then some e.2 else kget (kput S a b v) c d) = if c = a ∧ d = b then some v else (bif c == e.1.1 && d == e.1.2 then some e.2 else kget S c d)
      rw [ih]
      by_cases h : c = a ∧ d = b
      · rw [if_pos h, if_pos h, h.1, h.2, he]; rfl
      · rw [if_neg h, if_neg h]
/-- Is a spot in a square? -/
def inSq (l : List Sp) (a b : Int) (i : Nat) : Bool := ky (l.getD i (0, 0)).1 == a && ky (l.getD i (0, 0)).2 == b
def sqL (l : List Sp) (n : Nat) (a b : Int) : List Int := ((List.range n).filter (inSq l a b)).map fun (i : Nat) => (i : Int)
theorem sqL_succ (l : List Sp) (n : Nat) (a b : Int) : sqL l (n + 1) a b = sqL l n a b ++ (bif inSq l a b n then [(n : Int)] else []) := by
  unfold sqL
  rw [List.range_succ, List.filter_append, List.map_append]
  cases h : inSq l a b n <;> simp [h]
theorem sqN_get (l : List Sp) (a b : Int) : ∀ n, (kget (sqN l n) a b).getD [] = sqL l n a b
  | 0 => rfl
  | n + 1 => by
    rw [sqL_succ]
    show (kget (kput (sqN l n) _ _ _) a b).getD [] = _
    rw [kget_put]
    by_cases h : a = ky (l.getD n (0, 0)).1 ∧ b = ky (l.getD n (0, 0)).2
    · rw [if_pos h]
      have : inSq l a b n = true := by simp [inSq, h.1, h.2]
      rw [this, ← sqN_get l a b n, h.1, h.2]; rfl
    · rw [if_neg h, sqN_get l a b n]
      have : inSq l a b n = false := by
        cases hb : inSq l a b n with
        | false => rfl
        | true =>
          simp only [inSq, Bool.and_eq_true, beq_iff_eq] at hb
          exact absurd ⟨hb.1.symm, hb.2.symm⟩ h
      rw [this]; simp
theorem kget_mem {α : Type} {S : List (Sp × α)} {a b : Int} {v : α} (h : kget S a b = some v) : ∃ j : Nat, S[j]? = some ((a, b), v) := by
  induction S with
  | nil => cases h
  | cons e S ih =>
    have h : (bif a == e.1.1 && b == e.1.2 then some e.2 else kget S a b) = some v := h
    cases hb : (a == e.1.1 && b == e.1.2) with
    | true =>
      rw [hb] at h
      simp at hb h
      exact ⟨0, by rw [List.getElem?_cons_zero, hb.1, hb.2, ← h]⟩
    | false =>
      rw [hb] at h
      obtain ⟨j, hj⟩ := ih h
      exact ⟨j + 1, by simpa using hj⟩
def KN {α : Type} (S : List (Sp × α)) : Prop := (S.map (·.1)).Nodup
theorem kput_keys {α : Type} (S : List (Sp × α)) (a b : Int) (v : α) : ∀ k ∈ (kput S a b v).map (·.1), k ∈ S.map (·.1) ∨ k = (a, b) := by
  induction S with
  | nil => intro k hk; simp [kput] at hk; exact .inr hk
  | cons e S ih =>
    intro k hk
    have hk : k ∈ (bif a == e.1.1 && b == e.1.2 then ((a, b), v) :: S else e :: kput S a b v).map (·.1) := hk
    cases hb : (a == e.1.1 && b == e.1.2) with
    | true =>
      rw [hb] at hk
      simp only [cond_true, List.map_cons, List.mem_cons] at hk
      rcases hk with hk | hk
      · exact .inr hk
      · exact .inl (List.mem_cons_of_mem _ hk)
    | false =>
      rw [hb] at hk
      simp only [cond_false, List.map_cons, List.mem_cons] at hk
      rcases hk with hk | hk
      · exact .inl (by rw [hk]; exact List.mem_cons_self)
      · exact (ih k hk).imp (List.mem_cons_of_mem _) id
theorem KN.put {α : Type} {S : List (Sp × α)} (h : KN S) (a b : Int) (v : α) : KN (kput S a b v) := by
  induction S with
  | nil => simp [KN, kput]
  | cons e S ih =>
    unfold KN at h
    rw [List.map_cons, List.nodup_cons] at h
    show ((bif a == e.1.1 && b == e.1.2 then ((a, b), v) :: S else e :: kput S a b v).map (·.1)).Nodup
    cases hb : (a == e.1.1 && b == e.1.2) with
    | true =>
      simp only [Bool.and_eq_true, beq_iff_eq] at hb
      have he : e.1 = (a, b) := by rw [hb.1, hb.2]
      rw [cond_true, List.map_cons, List.nodup_cons]
      rw [he] at h
      exact h
    | false =>
      rw [cond_false, List.map_cons, List.nodup_cons]
      refine ⟨fun hk => ?_, ih h.2⟩
      rcases kput_keys S a b v _ hk with hk | hk
      · exact h.1 hk
      · rw [hk] at hb; simp at hb
theorem sqN_KN (l : List Sp) : ∀ n, KN (sqN l n)
  | 0 => List.nodup_nil
  | n + 1 => (sqN_KN l n).put _ _ _
theorem KN.at {α : Type} : ∀ {S : List (Sp × α)}, KN S → ∀ {j : Nat} {e : Sp × α}, S[j]? = some e → kget S e.1.1 e.1.2 = some e.2
  | [], _, j, e, he => by simp at he
  | e0 :: S, h, 0, e, he => by
    simp only [List.getElem?_cons_zero, Option.some.injEq] at he
    subst he
    show (bif e0.1.1 == e0.1.1 && e0.1.2 == e0.1.2 then some e0.2 else kget S e0.1.1 e0.1.2) = _
    simp
  | e0 :: S, h, j + 1, e, he => by
    simp only [List.getElem?_cons_succ] at he
    unfold KN at h
    rw [List.map_cons, List.nodup_cons] at h
    show (bif e.1.1 == e0.1.1 && e.1.2 == e0.1.2 then some e0.2 else kget S e.1.1 e.1.2) = _
    cases hb : (e.1.1 == e0.1.1 && e.1.2 == e0.1.2) with
    | false => exact KN.at (S := S) h.2 he
    | true =>
      simp only [Bool.and_eq_true, beq_iff_eq] at hb
      have : e.1 = e0.1 := Prod.ext hb.1 hb.2
      exact absurd (List.mem_map.2 ⟨e, List.mem_iff_getElem?.2 ⟨j, he⟩, this⟩) h.1
theorem KN.same {α : Type} {S : List (Sp × α)} (h : KN S) {i j : Nat} {e f : Sp × α} (hi : S[i]? = some e) (hj : S[j]? = some f) (he : e.1 = f.1) : i = j := by
  obtain ⟨h1, e1⟩ := List.getElem?_eq_some_iff.1 hi
  obtain ⟨h2, e2⟩ := List.getElem?_eq_some_iff.1 hj
  have a1 : i < (S.map (·.1)).length := by simpa using h1
  have a2 : j < (S.map (·.1)).length := by simpa using h2
  have eq : (S.map (·.1))[i] = (S.map (·.1))[j] := by simp [e1, e2, he]
  rcases Nat.lt_trichotomy i j with hlt | heq | hgt
  · exact absurd eq (List.pairwise_iff_getElem.1 h _ _ a1 a2 hlt)
  · exact heq
  · exact absurd eq.symm (List.pairwise_iff_getElem.1 h _ _ a2 a1 hgt)
theorem sqN_at {l : List Sp} {j : Nat} {e : Sp × List Int} (h : (sqN l l.length)[j]? = some e) : e.2 = sqL l l.length e.1.1 e.1.2 := by
  rw [← sqN_get, (sqN_KN l l.length).at h]; rfl
theorem sqN_has {l : List Sp} {i : Nat} (hi : i < l.length) : ∃ (j : Nat) (e : Sp × List Int), (sqN l l.length)[j]? = some e ∧ e.1 = (ky (l.getD i (0, 0)).1, ky (l.getD i (0, 0)).2) := by
  have h := sqN_get l (ky (l.getD i (0, 0)).1) (ky (l.getD i (0, 0)).2) l.length
  cases hk : kget (sqN l l.length) (ky (l.getD i (0, 0)).1) (ky (l.getD i (0, 0)).2) with
  | some v =>
    obtain ⟨j, hj⟩ := kget_mem hk
    exact ⟨j, _, hj, rfl⟩
  | none =>
    rw [hk] at h
    have : (i : Int) ∈ sqL l l.length (ky (l.getD i (0, 0)).1) (ky (l.getD i (0, 0)).2) := by
      unfold sqL
      refine List.mem_map.2 ⟨i, List.mem_filter.2 ⟨List.mem_range.2 hi, by simp [inSq]⟩, rfl⟩
    rw [← h] at this
    cases this
theorem sqL_mem {l : List Sp} {n : Nat} {a b v : Int} : v ∈ sqL l n a b ↔ ∃ i : Nat, v = i ∧ i < n ∧ ky (l.getD i (0, 0)).1 = a ∧ ky (l.getD i (0, 0)).2 = b := by
  unfold sqL
  simp only [List.mem_map, List.mem_filter, List.mem_range, inSq, Bool.and_eq_true, beq_iff_eq]
  constructor
  · rintro ⟨i, ⟨h1, h2, h3⟩, rfl⟩; exact ⟨i, rfl, h1, h2, h3⟩
  · rintro ⟨i, rfl, h1, h2, h3⟩; exact ⟨i, ⟨h1, h2, h3⟩, rfl⟩
theorem nodup_range_map {p : Nat → Bool} (n : Nat) : (((List.range n).filter p).map fun (i : Nat) => (i : Int)).Nodup :=
  List.nodup_iff_pairwise_ne.2 (List.pairwise_map.2 ((List.pairwise_lt_range.filter p).imp fun h e => by omega))
theorem sqL_rng {l : List Sp} {n : Nat} {a b : Int} {i : Nat} (h : i < (sqL l n a b).length) : 0 ≤ (sqL l n a b).getD i 0 ∧ (sqL l n a b).getD i 0 < n := by
  rw [List.getD_eq_getElem?_getD, List.getElem?_eq_getElem h]
  obtain ⟨j, hj, h1, _⟩ := sqL_mem.1 (List.getElem_mem h)
  simp only [Option.getD_some]
  omega
theorem sqL_len {l : List Sp} {n : Nat} {a b : Int} : (sqL l n a b).length ≤ n := by
  unfold sqL
  rw [List.length_map]
  exact Nat.le_trans (List.length_filter_le _ _) (by simp)
/-- What has been found of those that were looked at. -/
structure Inv (l : List Sp) (x y r : Int) (V : Nat → Prop) (M : List Int) : Prop where
  nd : M.Nodup
  mem : ∀ v, v ∈ M ↔ ∃ i : Nat, v = i ∧ i < l.length ∧ near l x y r i = true ∧ V i
variable {l : List Sp} {x y r : Int}
theorem Inv.start {V : Nat → Prop} (h : ∀ i, i < l.length → near l x y r i = true → ¬ V i) : Inv l x y r V [] :=
  ⟨List.nodup_nil, fun v => ⟨fun h => (nomatch h), fun ⟨i, _, h1, h2, h3⟩ => absurd h3 (h i h1 h2)⟩⟩
theorem Inv.congr {V V' : Nat → Prop} {M : List Int} (I : Inv l x y r V M) (h : ∀ i, i < l.length → near l x y r i = true → (V i ↔ V' i)) : Inv l x y r V' M :=
  ⟨I.nd, fun v => (I.mem v).trans ⟨fun ⟨i, h1, h2, h3, h4⟩ => ⟨i, h1, h2, h3, (h i h2 h3).1 h4⟩, fun ⟨i, h1, h2, h3, h4⟩ => ⟨i, h1, h2, h3, (h i h2 h3).2 h4⟩⟩⟩
theorem Inv.step {V V' : Nat → Prop} {M : List Int} (I : Inv l x y r V M) {a b : Int} (hno : ∀ i, i < l.length → near l x y r i = true → ky (l.getD i (0, 0)).1 = a ∧ ky (l.getD i (0, 0)).2 = b → ¬ V i)
    (h : ∀ i, i < l.length → near l x y r i = true → (V' i ↔ V i ∨ (ky (l.getD i (0, 0)).1 = a ∧ ky (l.getD i (0, 0)).2 = b))) : Inv l x y r V' (M ++ sel l x y r (sqL l l.length a b)) := by
  have hm : ∀ v, v ∈ sel l x y r (sqL l l.length a b) ↔ ∃ i : Nat, v = i ∧ i < l.length ∧ near l x y r i = true ∧ ky (l.getD i (0, 0)).1 = a ∧ ky (l.getD i (0, 0)).2 = b := by
    intro v
    unfold sel
    rw [List.mem_filter, sqL_mem]
    constructor
    · rintro ⟨⟨i, rfl, h1, h2, h3⟩, h4⟩; exact ⟨i, rfl, h1, by simpa using h4, h2, h3⟩
    · rintro ⟨i, rfl, h1, h4, h2, h3⟩; exact ⟨⟨i, rfl, h1, h2, h3⟩, by simpa using h4⟩
  refine ⟨?_, fun v => ?_⟩
  · rw [List.nodup_append]
    refine ⟨I.nd, (nodup_range_map (p := inSq l a b) l.length).sublist (List.filter_sublist ..), fun u hu v hv e => ?_⟩
    subst e
    obtain ⟨i, e1, h1, h2, h3⟩ := (I.mem u).1 hu
    obtain ⟨j, e2, g1, g2, g3⟩ := (hm u).1 hv
    have : i = j := by omega
    subst this
    exact hno i h1 h2 g3 h3
  · rw [List.mem_append, I.mem, hm]
    constructor
    · rintro (⟨i, h1, h2, h3, h4⟩ | ⟨i, h1, h2, h3, h4⟩)
      · exact ⟨i, h1, h2, h3, (h i h2 h3).2 (.inl h4)⟩
      · exact ⟨i, h1, h2, h3, (h i h2 h3).2 (.inr h4)⟩
    · rintro ⟨i, h1, h2, h3, h4⟩
      rcases (h i h2 h3).1 h4 with h4 | h4
      · exact .inl ⟨i, h1, h2, h3, h4⟩
      · exact .inr ⟨i, h1, h2, h3, h4⟩
theorem sortI_perm (L : List Int) : (sortI L).Perm L := List.mergeSort_perm L _
theorem sortI_sorted (L : List Int) : (sortI L).Pairwise fun a b => a ≤ b := by
  have := List.pairwise_mergeSort (le := fun x y : Int => decide (x ≤ y)) (fun a b c h1 h2 => by simp at h1 h2 ⊢; omega) (fun a b => by simp; omega) L
  exact this.imp fun h => by simpa using h
theorem wit_mem {v : Int} : v ∈ wit l x y r ↔ ∃ i : Nat, v = i ∧ i < l.length ∧ near l x y r i = true := by
  unfold wit witN
  simp only [List.mem_map, List.mem_filter, List.mem_range]
  constructor
  · rintro ⟨i, ⟨h1, h2⟩, rfl⟩; exact ⟨i, rfl, h1, h2⟩
  · rintro ⟨i, rfl, h1, h2⟩; exact ⟨i, ⟨h1, h2⟩, rfl⟩
theorem wit_sorted : (wit l x y r).Pairwise fun a b => a < b := by
  unfold wit witN
  exact List.pairwise_map.2 ((List.pairwise_lt_range.filter _).imp fun h => by omega)
theorem sorted_eq : ∀ {A B : List Int}, A.Pairwise (fun a b => a < b) → B.Pairwise (fun a b => a < b) → (∀ v, v ∈ A ↔ v ∈ B) → A = B
  | [], [], _, _, _ => rfl
  | [], b :: B, _, _, h => nomatch (h b).2 List.mem_cons_self
  | a :: A, [], _, _, h => nomatch (h a).1 List.mem_cons_self
  | a :: A, b :: B, hA, hB, h => by
    rw [List.pairwise_cons] at hA hB
    have e : a = b := by
      rcases List.mem_cons.1 ((h a).1 List.mem_cons_self) with h1 | h1
      · exact h1
      · rcases List.mem_cons.1 ((h b).2 List.mem_cons_self) with h2 | h2
        · exact h2.symm
        · have a1 := hA.1 b h2
          have a2 := hB.1 a h1
          omega
    subst e
    rw [sorted_eq hA.2 hB.2 fun v => ?_]
    constructor
    · intro hv
      rcases List.mem_cons.1 ((h v).1 (List.mem_cons_of_mem _ hv)) with h1 | h1
      · have := hA.1 v hv; omega
      · exact h1
    · intro hv
      rcases List.mem_cons.1 ((h v).2 (List.mem_cons_of_mem _ hv)) with h1 | h1
      · have := hB.1 v hv; omega
      · exact h1
theorem Inv.done {V : Nat → Prop} {M : List Int} (I : Inv l x y r V M) (h : ∀ i, i < l.length → near l x y r i = true → V i) : sortI M = wit l x y r := by
  refine sorted_eq ?_ wit_sorted fun v => ?_
  · have h1 := sortI_sorted M
    have h2 : (sortI M).Nodup := (sortI_perm M).nodup_iff.2 I.nd
    exact (h1.and (List.nodup_iff_pairwise_ne.1 h2)).imp fun h => by omega
  · rw [(sortI_perm M).mem_iff, I.mem, wit_mem]
    exact ⟨fun ⟨i, h1, h2, h3, _⟩ => ⟨i, h1, h2, h3⟩, fun ⟨i, h1, h2, h3⟩ => ⟨i, h1, h2, h3, h i h2 h3⟩⟩
theorem Inv.len {V : Nat → Prop} {M : List Int} (I : Inv l x y r V M) : M.length ≤ l.length := by
  have h : ∀ v ∈ M, v ∈ (List.range l.length).map fun (i : Nat) => (i : Int) := fun v hv => by
    obtain ⟨i, rfl, h1, _⟩ := (I.mem v).1 hv
    exact List.mem_map.2 ⟨i, List.mem_range.2 h1, rfl⟩
  have : ∀ {A B : List Int}, A.Nodup → (∀ b ∈ A, b ∈ B) → A.length ≤ B.length := by
    intro A
    induction A with
    | nil => intro B _ _; exact Nat.zero_le _
    | cons a A ih =>
      intro B h hs
      rw [List.nodup_cons] at h
      have ha := hs a List.mem_cons_self
      have h1 := ih (B := B.erase a) h.2 fun b hb => (List.mem_erase_of_ne (fun e : b = a => h.1 (e ▸ hb))).2 (hs b (List.mem_cons_of_mem _ hb))
      rw [List.length_erase_of_mem ha] at h1
      have := List.length_pos_of_mem ha
      rw [List.length_cons]
      omega
  have := this I.nd h
  simpa using this
end Go.Eng.S12
