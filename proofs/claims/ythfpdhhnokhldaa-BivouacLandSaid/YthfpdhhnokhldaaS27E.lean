/- Seat top, land: cells, slopes, depths, walked. -/
import Derived.Test.YthfpdhhnokhldaaEngX
import Derived.Test.YthfpdhhnokhldaaS27D
set_option linter.unusedSimpArgs false
set_option linter.unusedVariables false
namespace Go.Eng.S27
open Go.Proofs Go.IntWalk
set_option maxRecDepth 10000

def inC (W H i j : Int) : Bool := decide (0 ≤ i) && decide (i < W) && decide (0 ≤ j) && decide (j < H)
def cellE (W H A : Int) (n : Nat) (i j : Int) : Int := bif chk W H A n != 0 then 1 else bif !inC W H i j then 4 else 0
/-- A cell's corners: the four, or noughts. -/
def cellC (W H A : Int) (n : Nat) (u : Nat → Int) (i j : Int) (k : Nat) : Int := bif cellE W H A n i j == 0 then [u (crn W i j), u (crn W i j + 1), u (crn W i j + (W + 1).toNat), u (crn W i j + (W + 1).toNat + 1)].getD k 0 else 0
def sCell : Spec := fun args hr _ => match args with
  | [.agg [.int .i64 W, .int .i64 H, .int .i64 A, v], .int .i64 i, .int .i64 j] => match sl 1 hr v with
    | some (n, f, rd) => some ⟨[IsU n f], .tup [.agg [.int .i64 (cellC W H A n (U f) i j 0), .int .i64 (cellC W H A n (U f) i j 1), .int .i64 (cellC W H A n (U f) i j 2), .int .i64 (cellC W H A n (U f) i j 3)], .int .i64 (cellE W H A n i j)], rd, []⟩
    | none => none
  | _ => none
theorem inC_get {W H i j : Int} (h : inC W H i j = true) : (0 ≤ i ∧ i < W) ∧ 0 ≤ j ∧ j < H := by
  unfold inC at h
  simp only [Bool.and_eq_true, decide_eq_true_eq] at h
  omega
theorem cell_ok : SpecOK Try.prog 39 sCell := by
  refine spec_own (by kernel_rfl) T_ok (sget_cons check_ok (sget_cons corn_ok sget_nil)) Try.func39 rfl rfl fun args hr nb out e => ?_
  unfold sCell at e
  split at e
  · rename_i W H A v i j
    split at e
    · rename_i n f rd hs1
      injection e with e; subst e
      refine ⟨fun x hx => sl_rd hs1 x hx, false, [mp4 W H A n (U f), .int .i64 i, .int .i64 j], rfl, fun hs => ?_⟩
      have h1 := hs _ List.mem_cons_self
      refine ⟨map_pass hs1 (fun y hy => ⟨hy, by simp⟩) h1 (.cons _ _ _ _ (.same _ _ (.int _ _)) (.cons _ _ _ _ (.same _ _ (.int _ _)) .nil)), ?_⟩
      have hu : ∀ i, i < n → 0 ≤ U f i ∧ U f i ≤ 255 := fun i hi => (h1.get i hi).2
      clear hs h1
      generalize U f = u at hu ⊢
      have i1 : IsU n (nU u) := isU hu
      have eC : ∀ k, cellC W H A n u i j k = bif cellE W H A n i j == 0 then [u (crn W i j), u (crn W i j + 1), u (crn W i j + (W + 1).toNat), u (crn W i j + (W + 1).toNat + 1)].getD k 0 else 0 := fun _ => rfl
      have eE : cellE W H A n i j = bif chk W H A n != 0 then 1 else bif !inC W H i j then 4 else 0 := rfl
      rw [eC, eC, eC, eC, eE]
      clear eC eE
      unfold mp4
      refine evC_go0 (dec := []) (ks := [(0, 1), (0, 2), (0, 3), (0, 6), (0, 7), (1, 0), (1, 1), (1, 2), (1, 3), (1, 4), (9, 0), (9, 1), (9, 2), (9, 3), (9, 4)]) (s' := ⟨[(0, 1, Cont.cell (AV.int IntKind.i64 i)), (0, 2, Cont.cell (AV.int IntKind.i64 j)), (0, 3, Cont.cell (AV.ptr 1 0)), (0, 6, Cont.cell (AV.ptr 9 0)), (0, 7, Cont.cell (AV.int IntKind.i64 0)), (1, 0, Cont.cell (AV.int IntKind.i64 W)), (1, 1, Cont.cell (AV.int IntKind.i64 H)), (1, 2, Cont.cell (AV.int IntKind.i64 A)), (1, 3, Cont.cell (AV.rs 1 n false (nU u))), (1, 4, Cont.top), (9, 0, Cont.cell (AV.int IntKind.i64 0)), (9, 1, Cont.cell (AV.int IntKind.i64 0)), (9, 2, Cont.cell (AV.int IntKind.i64 0)), (9, 3, Cont.cell (AV.int IntKind.i64 0)), (9, 4, Cont.top)], 25, 35⟩) (by kernel_rfl) (by kernel_rfl) ?_
      refine evC_seq ?_
      refine evC_go (dec := []) (ks := [(0, 1), (0, 2), (0, 3), (0, 6), (0, 7), (0, 10), (1, 0), (1, 1), (1, 2), (1, 3), (1, 4), (9, 0), (9, 1), (9, 2), (9, 3), (9, 4)]) (ps := [IsU n (nU u)]) (s' := ⟨[(0, 1, Cont.cell (AV.int IntKind.i64 i)), (0, 2, Cont.cell (AV.int IntKind.i64 j)), (0, 3, Cont.cell (AV.ptr 1 0)), (0, 6, Cont.cell (AV.ptr 9 0)), (0, 7, Cont.cell (AV.int IntKind.i64 0)), (0, 10, Cont.cell (AV.bool (chk W H A n != 0))), (1, 0, Cont.cell (AV.int IntKind.i64 W)), (1, 1, Cont.cell (AV.int IntKind.i64 H)), (1, 2, Cont.cell (AV.int IntKind.i64 A)), (1, 3, Cont.cell (AV.rs 1 n false (nU u))), (1, 4, Cont.top), (9, 0, Cont.cell (AV.int IntKind.i64 0)), (9, 1, Cont.cell (AV.int IntKind.i64 0)), (9, 2, Cont.cell (AV.int IntKind.i64 0)), (9, 3, Cont.cell (AV.int IntKind.i64 0)), (9, 4, Cont.top)], 49, 35⟩) (by kernel_rfl) (by kernel_rfl) ?_ ?_
      · exact i1
      refine evC_if (q := chk W H A n != 0) (by kernel_rfl) (fun hc => ?_) (fun hc => ?_)
      · rw [hc]
        refine evC_go0 (dec := []) (ks := [(0, 1), (0, 2), (0, 3), (0, 6), (0, 7), (1, 0), (1, 1), (1, 2), (1, 3), (1, 4), (9, 0), (9, 1), (9, 2), (9, 3), (9, 4)]) (s' := ⟨[(0, 1, Cont.cell (AV.int IntKind.i64 i)), (0, 2, Cont.cell (AV.int IntKind.i64 j)), (0, 3, Cont.cell (AV.ptr 1 0)), (0, 6, Cont.cell (AV.ptr 9 0)), (0, 7, Cont.cell (AV.int IntKind.i64 1)), (1, 0, Cont.cell (AV.int IntKind.i64 W)), (1, 1, Cont.cell (AV.int IntKind.i64 H)), (1, 2, Cont.cell (AV.int IntKind.i64 A)), (1, 3, Cont.cell (AV.rs 1 n false (nU u))), (1, 4, Cont.top), (9, 0, Cont.cell (AV.int IntKind.i64 0)), (9, 1, Cont.cell (AV.int IntKind.i64 0)), (9, 2, Cont.cell (AV.int IntKind.i64 0)), (9, 3, Cont.cell (AV.int IntKind.i64 0)), (9, 4, Cont.top)], 73, 35⟩) (by kernel_rfl) (by kernel_rfl) ?_
        refine evC_ret ?_
        refine then_ret ?_
        refine post_ret ?_
        refine ends_flat (vs := [AV.agg [AV.int IntKind.i64 0, AV.int IntKind.i64 0, AV.int IntKind.i64 0, AV.int IntKind.i64 0], AV.int IntKind.i64 1]) (Nat.zero_lt_succ _) (by kernel_rfl) (flat_of _ (by kernel_rfl)) rfl ?_
        rfl
      · rw [hc]
        have h0 : chk W H A n = 0 := by simpa using hc
        clear hc
        simp only [cond_false]
        refine evC_skip ?_
        refine then_normal ?_
        refine evC_seq ?_
        refine evC_go0 (dec := []) (ks := [(0, 1), (0, 2), (0, 3), (0, 6), (0, 7), (0, 29), (1, 0), (1, 1), (1, 2), (1, 3), (1, 4), (9, 0), (9, 1), (9, 2), (9, 3), (9, 4)]) (s' := ⟨[(0, 1, Cont.cell (AV.int IntKind.i64 i)), (0, 2, Cont.cell (AV.int IntKind.i64 j)), (0, 3, Cont.cell (AV.ptr 1 0)), (0, 6, Cont.cell (AV.ptr 9 0)), (0, 7, Cont.cell (AV.int IntKind.i64 0)), (0, 29, Cont.cell (AV.bool (bif bif bif decide (i < 0) then true else decide (i ≥ W) then true else decide (j < 0) then true else decide (j ≥ H)))), (1, 0, Cont.cell (AV.int IntKind.i64 W)), (1, 1, Cont.cell (AV.int IntKind.i64 H)), (1, 2, Cont.cell (AV.int IntKind.i64 A)), (1, 3, Cont.cell (AV.rs 1 n false (nU u))), (1, 4, Cont.top), (9, 0, Cont.cell (AV.int IntKind.i64 0)), (9, 1, Cont.cell (AV.int IntKind.i64 0)), (9, 2, Cont.cell (AV.int IntKind.i64 0)), (9, 3, Cont.cell (AV.int IntKind.i64 0)), (9, 4, Cont.top)], 193, 35⟩) (by kernel_rfl) (by kernel_rfl) ?_
        have hcond : (bif bif bif decide (i < 0) then true else decide (i ≥ W) then true else decide (j < 0) then true else decide (j ≥ H)) = !inC W H i j := by
          unfold inC
          simp only [cond_or]
          by_cases a : 0 ≤ i <;> by_cases b : i < W <;> by_cases c : 0 ≤ j <;> by_cases d : j < H <;> simp [a, b, c, d] <;> omega
        rw [hcond]
        clear hcond
        refine evC_if (q := !inC W H i j) (by kernel_rfl) (fun hc => ?_) (fun hc => ?_)
        · rw [hc]
          refine evC_go0 (dec := []) (ks := [(0, 1), (0, 2), (0, 3), (0, 6), (0, 7), (1, 0), (1, 1), (1, 2), (1, 3), (1, 4), (9, 0), (9, 1), (9, 2), (9, 3), (9, 4)]) (s' := ⟨[(0, 1, Cont.cell (AV.int IntKind.i64 i)), (0, 2, Cont.cell (AV.int IntKind.i64 j)), (0, 3, Cont.cell (AV.ptr 1 0)), (0, 6, Cont.cell (AV.ptr 9 0)), (0, 7, Cont.cell (AV.int IntKind.i64 4)), (1, 0, Cont.cell (AV.int IntKind.i64 W)), (1, 1, Cont.cell (AV.int IntKind.i64 H)), (1, 2, Cont.cell (AV.int IntKind.i64 A)), (1, 3, Cont.cell (AV.rs 1 n false (nU u))), (1, 4, Cont.top), (9, 0, Cont.cell (AV.int IntKind.i64 0)), (9, 1, Cont.cell (AV.int IntKind.i64 0)), (9, 2, Cont.cell (AV.int IntKind.i64 0)), (9, 3, Cont.cell (AV.int IntKind.i64 0)), (9, 4, Cont.top)], 217, 35⟩) (by kernel_rfl) (by kernel_rfl) ?_
          refine evC_ret ?_
          refine then_ret ?_
          refine post_ret ?_
          refine ends_flat (vs := [AV.agg [AV.int IntKind.i64 0, AV.int IntKind.i64 0, AV.int IntKind.i64 0, AV.int IntKind.i64 0], AV.int IntKind.i64 4]) (Nat.zero_lt_succ _) (by kernel_rfl) (flat_of _ (by kernel_rfl)) rfl ?_
          rfl
        · rw [hc]
          have hi : inC W H i j = true := by simpa using hc
          clear hc
          refine evC_skip ?_
          refine then_normal ?_
          refine evC_go (dec := []) (ks := [(0, 6), (0, 7), (9, 0), (9, 1), (9, 2), (9, 3), (9, 4)]) (ps := [IsU n (nU u), chk W H A n = (0 : Int), ((0 : Int) ≤ i ∧ i < W) ∧ (0 : Int) ≤ j ∧ j < H]) (s' := ⟨[(0, 6, Cont.cell (AV.ptr 9 0)), (0, 7, Cont.cell (AV.int IntKind.i64 0)), (9, 0, Cont.cell (AV.int IntKind.i64 (U (nU u) (crn W i j)))), (9, 1, Cont.cell (AV.int IntKind.i64 (U (nU u) (crn W i j + 1)))), (9, 2, Cont.cell (AV.int IntKind.i64 (U (nU u) (crn W i j + Int.toNat (W + 1))))), (9, 3, Cont.cell (AV.int IntKind.i64 (U (nU u) (crn W i j + Int.toNat (W + 1) + 1)))), (9, 4, Cont.top)], 241, 35⟩) (by kernel_rfl) (by kernel_rfl) ?_ ?_
          · exact ⟨i1, h0, inC_get hi⟩
          rw [U_nU]
          refine evC_ret ?_
          refine post_ret ?_
          refine ends_flat (vs := [AV.agg [AV.int IntKind.i64 (u (crn W i j)), AV.int IntKind.i64 (u (crn W i j + 1)), AV.int IntKind.i64 (u (crn W i j + Int.toNat (W + 1))), AV.int IntKind.i64 (u (crn W i j + Int.toNat (W + 1) + 1))], AV.int IntKind.i64 0]) (Nat.zero_lt_succ _) (by kernel_rfl) (flat_of _ (by kernel_rfl)) rfl ?_
          rfl
    · cases e
  · cases e
theorem If_lit (c0 c1 c2 c3 : Int) : ∀ i, i < 4 → (fun i => [AV.int .i64 c0, .int .i64 c1, .int .i64 c2, .int .i64 c3].getD i .nils) i = nI (If fun i => [AV.int .i64 c0, .int .i64 c1, .int .i64 c2, .int .i64 c3].getD i .nils) i := by
  intro i hi
  rcases (by omega : i = 0 ∨ i = 1 ∨ i = 2 ∨ i = 3) with rfl | rfl | rfl | rfl <;> rfl
theorem leastN_lit (c : Nat → Int) : leastN (If fun i => [AV.int .i64 (c 0), .int .i64 (c 1), .int .i64 (c 2), .int .i64 (c 3)].getD i .nils) 4 = leastN c 4 := rfl
theorem mostN_lit (c : Nat → Int) : mostN (If fun i => [AV.int .i64 (c 0), .int .i64 (c 1), .int .i64 (c 2), .int .i64 (c 3)].getD i .nils) 4 = mostN c 4 := rfl
theorem least_bd {c : Nat → Int} {lo hi : Int} : ∀ n, 0 < n → (∀ i, i < n → lo ≤ c i ∧ c i ≤ hi) → lo ≤ leastN c n ∧ leastN c n ≤ hi ∧ ∀ i, i < n → leastN c n ≤ c i
  | 0, h, _ => by omega
  | 1, _, h => by
    have := h 0 (by omega)
    have e : leastN c 1 = c 0 := by show mn2 (c 0) (c 0) = c 0; unfold mn2; split <;> rfl
    rw [e]
    refine ⟨this.1, this.2, fun i hi => ?_⟩
    obtain rfl : i = 0 := by omega
    exact Int.le_refl _
  | n + 2, _, h => by
    obtain ⟨h1, h2, h3⟩ := least_bd (n + 1) (by omega) fun i hi => h i (by omega)
    have h4 := h (n + 1) (by omega)
    have e : leastN c (n + 2) = mn2 (leastN c (n + 1)) (c (n + 1)) := rfl
    have hm : mn2 (leastN c (n + 1)) (c (n + 1)) ≤ leastN c (n + 1) ∧ mn2 (leastN c (n + 1)) (c (n + 1)) ≤ c (n + 1) ∧ (mn2 (leastN c (n + 1)) (c (n + 1)) = leastN c (n + 1) ∨ mn2 (leastN c (n + 1)) (c (n + 1)) = c (n + 1)) := by
      unfold mn2
      split
      · exact ⟨by omega, by omega, .inr rfl⟩
      · exact ⟨by omega, by omega, .inl rfl⟩
    rw [e]
    generalize mn2 (leastN c (n + 1)) (c (n + 1)) = m at hm
    refine ⟨by omega, by omega, fun i hi => ?_⟩
    rcases Nat.lt_or_ge i (n + 1) with hlt | hge
    · have := h3 i hlt; omega
    · have : i = n + 1 := by omega
      subst this; omega
theorem most_bd {c : Nat → Int} {lo hi : Int} : ∀ n, 0 < n → (∀ i, i < n → lo ≤ c i ∧ c i ≤ hi) → lo ≤ mostN c n ∧ mostN c n ≤ hi
  | 0, h, _ => by omega
  | 1, _, h => by
    have := h 0 (by omega)
    have e : mostN c 1 = c 0 := by show mx2 (c 0) (c 0) = c 0; unfold mx2; split <;> rfl
    rw [e]; exact this
  | n + 2, _, h => by
    obtain ⟨h1, h2⟩ := most_bd (n + 1) (by omega) fun i hi => h i (by omega)
    have h4 := h (n + 1) (by omega)
    have e : mostN c (n + 2) = mx2 (mostN c (n + 1)) (c (n + 1)) := rfl
    rw [e]
    unfold mx2
    split <;> omega
theorem cellC_bd {W H A : Int} {n : Nat} {u : Nat → Int} {i j : Int} (hu : ∀ i, i < n → 0 ≤ u i ∧ u i ≤ 255) (k : Nat) (hk : k < 4) : 0 ≤ cellC W H A n u i j k ∧ cellC W H A n u i j k ≤ 255 := by
  unfold cellC
  cases h : (cellE W H A n i j == 0) with
  | false => exact ⟨Int.le_refl _, by show (0 : Int) ≤ 255; omega⟩
  | true =>
    have h0 : cellE W H A n i j = 0 := by simpa using h
    unfold cellE at h0
    cases h1 : (chk W H A n != 0) with
    | true => rw [h1] at h0; cases h0
    | false =>
      rw [h1] at h0
      cases h2 : inC W H i j with
      | false => rw [h2] at h0; cases h0
      | true =>
        have h3 : chk W H A n = 0 := by simpa using h1
        obtain ⟨hi, hj⟩ := inC_get h2
        obtain ⟨c1, c2, c3, c4⟩ := crn_rng h3 hi hj
        rcases (by omega : k = 0 ∨ k = 1 ∨ k = 2 ∨ k = 3) with rfl | rfl | rfl | rfl
        · exact hu _ (by omega)
        · exact hu _ (by omega)
        · exact hu _ (by omega)
        · exact hu _ (by omega)
def sSlope : Spec := fun args hr _ => match args with
  | [.agg [.int .i64 W, .int .i64 H, .int .i64 A, v], .int .i64 i, .int .i64 j] => match sl 1 hr v with
    | some (n, f, rd) => some ⟨[IsU n f], .tup [.int .i64 (mostN (cellC W H A n (U f) i j) 4 - leastN (cellC W H A n (U f) i j) 4), .int .i64 (cellE W H A n i j)], rd, []⟩
    | none => none
  | _ => none
theorem slope_ok : SpecOK Try.prog 27 sSlope := by
  refine spec_own (by kernel_rfl) T_ok (sget_cons cell_ok (sget_cons least_ok (sget_cons most_ok sget_nil))) Try.func27 rfl rfl fun args hr nb out e => ?_
  unfold sSlope at e
  split at e
  · rename_i W H A v i j
    split at e
    · rename_i n f rd hs1
      injection e with e; subst e
      refine ⟨fun x hx => sl_rd hs1 x hx, false, [mp4 W H A n (U f), .int .i64 i, .int .i64 j], rfl, fun hs => ?_⟩
      have h1 := hs _ List.mem_cons_self
      refine ⟨map_pass hs1 (fun y hy => ⟨hy, by simp⟩) h1 (.cons _ _ _ _ (.same _ _ (.int _ _)) (.cons _ _ _ _ (.same _ _ (.int _ _)) .nil)), ?_⟩
      have hu : ∀ i, i < n → 0 ≤ U f i ∧ U f i ≤ 255 := fun i hi => (h1.get i hi).2
      clear hs h1
      generalize U f = u at hu ⊢
      have i1 : IsU n (nU u) := isU hu
      unfold mp4
      refine evC_go0 (dec := []) (ks := [(0, 1), (0, 2), (0, 3), (0, 6), (0, 7), (1, 0), (1, 1), (1, 2), (1, 3), (1, 4)]) (s' := ⟨[(0, 1, Cont.cell (AV.int IntKind.i64 i)), (0, 2, Cont.cell (AV.int IntKind.i64 j)), (0, 3, Cont.cell (AV.ptr 1 0)), (0, 6, Cont.cell (AV.int IntKind.i64 0)), (0, 7, Cont.cell (AV.int IntKind.i64 0)), (1, 0, Cont.cell (AV.int IntKind.i64 W)), (1, 1, Cont.cell (AV.int IntKind.i64 H)), (1, 2, Cont.cell (AV.int IntKind.i64 A)), (1, 3, Cont.cell (AV.rs 1 n false (nU u))), (1, 4, Cont.top)], 25, 23⟩) (by kernel_rfl) (by kernel_rfl) ?_
      refine evC_go (dec := []) (ks := [(0, 6), (0, 7), (0, 8), (0, 9), (81, 0), (81, 1), (81, 2), (81, 3), (81, 4)]) (ps := [IsU n (nU u)]) (s' := ⟨[(0, 6, Cont.cell (AV.int IntKind.i64 0)), (0, 7, Cont.cell (AV.int IntKind.i64 0)), (0, 8, Cont.cell (AV.ptr 81 0)), (0, 9, Cont.cell (AV.int IntKind.i64 (cellE W H A n i j))), (81, 0, Cont.cell (AV.int IntKind.i64 (cellC W H A n (U (nU u)) i j 0))), (81, 1, Cont.cell (AV.int IntKind.i64 (cellC W H A n (U (nU u)) i j 1))), (81, 2, Cont.cell (AV.int IntKind.i64 (cellC W H A n (U (nU u)) i j 2))), (81, 3, Cont.cell (AV.int IntKind.i64 (cellC W H A n (U (nU u)) i j 3))), (81, 4, Cont.top)], 105, 23⟩) (by kernel_rfl) (by kernel_rfl) ?_ ?_
      · exact i1
      rw [U_nU]
      have hb := cellC_bd (W := W) (H := H) (A := A) (i := i) (j := j) hu
      generalize cellC W H A n u i j = c at hb ⊢
      refine evC_wk (s' := ⟨[(0, 6, Cont.cell (AV.int IntKind.i64 0)), (0, 7, Cont.cell (AV.int IntKind.i64 0)), (0, 8, Cont.cell (AV.rp [AV.int IntKind.i64 (c 0), AV.int IntKind.i64 (c 1), AV.int IntKind.i64 (c 2), AV.int IntKind.i64 (c 3)])), (0, 9, Cont.cell (AV.int IntKind.i64 (cellE W H A n i j)))], 1, 23⟩) _ (.trans (.frzP 81 [AV.int IntKind.i64 (c 0), AV.int IntKind.i64 (c 1), AV.int IntKind.i64 (c 2), AV.int IntKind.i64 (c 3)] (Nat.le_of_ble_eq_true rfl) (Nat.le_of_ble_eq_true rfl) ⟨rfl, rfl, rfl, rfl, trivial⟩) (wk_go [] rfl (by decide) rfl rfl ⟨⟨_, rfl, rfl⟩, ⟨_, rfl, rfl⟩, ⟨_, rfl, rfl⟩, ⟨_, rfl, rfl⟩, trivial⟩)) ?_
      refine evC_go (dec := []) (ks := [(0, 6), (0, 7)]) (ps := [∀ (i : Nat), i < (4 : Nat) → List.getD [AV.int IntKind.i64 (c (0 : Nat)), AV.int IntKind.i64 (c (1 : Nat)), AV.int IntKind.i64 (c (2 : Nat)), AV.int IntKind.i64 (c (3 : Nat))] i AV.nils = nI (If fun i => List.getD [AV.int IntKind.i64 (c (0 : Nat)), AV.int IntKind.i64 (c (1 : Nat)), AV.int IntKind.i64 (c (2 : Nat)), AV.int IntKind.i64 (c (3 : Nat))] i AV.nils) i, (1 : Nat) ≤ (4 : Nat) ∧ (4 : Nat) ≤ (1000 : Nat), ∀ (i : Nat), i < (4 : Nat) → List.getD [AV.int IntKind.i64 (c (0 : Nat)), AV.int IntKind.i64 (c (1 : Nat)), AV.int IntKind.i64 (c (2 : Nat)), AV.int IntKind.i64 (c (3 : Nat))] i AV.nils = nI (If fun i => List.getD [AV.int IntKind.i64 (c (0 : Nat)), AV.int IntKind.i64 (c (1 : Nat)), AV.int IntKind.i64 (c (2 : Nat)), AV.int IntKind.i64 (c (3 : Nat))] i AV.nils) i, (1 : Nat) ≤ (4 : Nat) ∧ (4 : Nat) ≤ (1000 : Nat)]) (s' := ⟨[(0, 6, Cont.cell (AV.int IntKind.i64 (IntKind.i64.wrap (mostN (If fun i => List.getD [AV.int IntKind.i64 (c 0), AV.int IntKind.i64 (c 1), AV.int IntKind.i64 (c 2), AV.int IntKind.i64 (c 3)] i AV.nils) 4 - leastN (If fun i => List.getD [AV.int IntKind.i64 (c 0), AV.int IntKind.i64 (c 1), AV.int IntKind.i64 (c 2), AV.int IntKind.i64 (c 3)] i AV.nils) 4)))), (0, 7, Cont.cell (AV.int IntKind.i64 (cellE W H A n i j)))], 65, 23⟩) (by kernel_rfl) (by kernel_rfl) ?_ ?_
      · exact ⟨If_lit _ _ _ _, ⟨by omega, by omega⟩, If_lit _ _ _ _, by omega, by omega⟩
      rw [leastN_lit, mostN_lit]
      have b1 := least_bd 4 (by omega) hb
      have b2 := most_bd 4 (by omega) hb
      rw [i64_in _ (by omega)]
      refine evC_ret ?_
      refine post_ret ?_
      refine ends_flat (vs := [AV.int IntKind.i64 (mostN c 4 - leastN c 4), AV.int IntKind.i64 (cellE W H A n i j)]) (Nat.zero_lt_succ _) (by kernel_rfl) (flat_of _ (by kernel_rfl)) rfl ?_
      rfl
    · cases e
  · cases e
end Go.Eng.S27
