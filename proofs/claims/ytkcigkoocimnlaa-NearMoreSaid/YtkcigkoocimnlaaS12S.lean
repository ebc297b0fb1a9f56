/- Seat 12: the law NearMore, walked. -/
import Derived.Test.YtkcigkoocimnlaaEngX
import Derived.Test.YtkcigkoocimnlaaS12O
set_option linter.unusedSimpArgs false
set_option linter.unusedVariables false
namespace Go.Eng.S12
open Go.Proofs Go.IntWalk
set_option maxRecDepth 10000

/-- The greater distance that is asked. -/
def rB (r : Int) : Int := r + (67108864 - r).tdiv 2
theorem rB_in {r : Int} (h : InB r) : InB (rB r) ∧ r ≤ rB r := by
  unfold InB at *
  unfold rB
  have h1 := Int.tdiv_eq_ediv_of_nonneg (a := 67108864 - r) (b := 2) (by omega)
  rw [h1]
  omega
theorem rB_wrap {r : Int} (h : InB r) : IntKind.i64.wrap (r + IntKind.i64.wrap ((IntKind.i64.wrap (67108864 - r)).tdiv 2)) = rB r := by
  have h2 := rB_in h
  unfold InB at h h2
  unfold rB at *
  have h1 := Int.tdiv_eq_ediv_of_nonneg (a := 67108864 - r) (b := 2) (by omega)
  rw [i64_in (67108864 - r) (by omega), i64_in ((67108864 - r).tdiv 2) (by rw [h1]; omega), i64_in _ (by omega)]
theorem near_mono {l : List Sp} {x y r r' : Int} (h0 : 0 ≤ r) (hr : r ≤ r') {i : Nat} (h : near l x y r i = true) : near l x y r' i = true := by
  unfold near at *
  have h := of_decide_eq_true h
  have := Int.mul_le_mul hr hr h0 (Int.le_trans h0 hr)
  exact decide_eq_true (Int.le_trans h this)
theorem wit_sel {l : List Sp} {x y r r' : Int} (h0 : 0 ≤ r) (hr : r ≤ r') : wit l x y r = sel l x y r (wit l x y r') := by
  unfold wit sel witN
  rw [List.filter_map, List.filter_filter]
  congr 1
  refine List.filter_congr fun i _ => ?_
  show near l x y r i = (near l x y r ((i : Int)).toNat && near l x y r' i)
  rw [Int.toNat_natCast]
  cases h : near l x y r i with
  | true => rw [near_mono h0 hr h]; rfl
  | false => rfl
/-- How far the lesser row has come. -/
def kAt (l : List Sp) (x y r : Int) (B : List Int) (j : Nat) : Nat := (sel l x y r (B.take j)).length
theorem kAt_le (l : List Sp) (x y r : Int) (B : List Int) (j : Nat) : kAt l x y r B j ≤ (sel l x y r B).length := by
  unfold kAt sel
  exact (List.Sublist.filter _ (List.take_sublist _ _)).length_le
theorem kAt_hit {l : List Sp} {x y r : Int} {B : List Int} {j : Nat} (hj : j < B.length) (h : near l x y r (B.getD j 0).toNat = true) :
    kAt l x y r B j < (sel l x y r B).length ∧ (sel l x y r B).getD (kAt l x y r B j) 0 = B.getD j 0 ∧ kAt l x y r B (j + 1) = kAt l x y r B j + 1 := by
  have h1 : sel l x y r (B.take (j + 1)) = sel l x y r (B.take j) ++ [B.getD j 0] := by rw [take_snoc B hj, sel_snoc, h]; rfl
  have h2 : sel l x y r B = sel l x y r (B.take (j + 1)) ++ sel l x y r (B.drop (j + 1)) := by
    unfold sel
    rw [← List.filter_append, List.take_append_drop]
  have h3 : sel l x y r B = sel l x y r (B.take j) ++ (B.getD j 0 :: sel l x y r (B.drop (j + 1))) := by rw [h2, h1]; simp
  unfold kAt
  rw [h1]
  refine ⟨by rw [h3]; simp, ?_, by simp⟩
  rw [h3, List.getD_eq_getElem?_getD, List.getElem?_append_right (Nat.le_refl _), Nat.sub_self]
  rfl
theorem kAt_miss {l : List Sp} {x y r : Int} {B : List Int} {j : Nat} (hj : j < B.length) (h : near l x y r (B.getD j 0).toNat = false) :
    kAt l x y r B (j + 1) = kAt l x y r B j ∧ (kAt l x y r B j < (sel l x y r B).length → (sel l x y r B).getD (kAt l x y r B j) 0 ≠ B.getD j 0) := by
  have h1 : sel l x y r (B.take (j + 1)) = sel l x y r (B.take j) := by rw [take_snoc B hj, sel_snoc, h]; simp
  refine ⟨by unfold kAt; rw [h1], fun hk e => ?_⟩
  have hm : B.getD j 0 ∈ sel l x y r B := by
    rw [← e, List.getD_eq_getElem?_getD, List.getElem?_eq_getElem hk]
    exact List.getElem_mem hk
  have := (List.mem_filter.1 hm).2
  rw [h] at this
  cases this
/-- Whether the nearest is among the first i. -/
def hasN (A : List Int) (e : Int) (i : Nat) : Bool := (A.length == 0) || (A.take i).any fun a => a == e
theorem hasN_succ {A : List Int} {e : Int} {i : Nat} (h : i < A.length) : hasN A e (i + 1) = (hasN A e i || A.getD i 0 == e) := by
  unfold hasN
  rw [take_snoc A h, List.any_append]
  simp [Bool.or_assoc]
theorem hasN_all {l : List Sp} {x y r : Int} : hasN (wit l x y r) (nst l x y : Nat) (wit l x y r).length = true := by
  unfold hasN
  rw [List.take_length]
  cases hA : wit l x y r with
  | nil => rfl
  | cons a A =>
    have ha : a ∈ wit l x y r := by rw [hA]; exact List.mem_cons_self
    obtain ⟨i, rfl, hi, hn⟩ := wit_mem.1 ha
    have h0 : 0 < l.length := by omega
    have h1 := nst_lt (x := x) (y := y) h0
    have h2 := nst_ok (x := x) (y := y) h0
    have h3 := all_get h2 hi
    have h4 : near l x y r (nst l x y) = true := by
      unfold near at *
      unfold nrB at h3
      have hn := of_decide_eq_true hn
      have h3 := of_decide_eq_false (by simpa using h3 : decide (farI (l.getD i (0, 0)) x y < farI (l.getD (nst l x y) (0, 0)) x y) = false)
      exact decide_eq_true (by omega)
    have hm : ((nst l x y : Nat) : Int) ∈ wit l x y r := wit_mem.2 ⟨_, rfl, h1, h4⟩
    rw [hA] at hm
    rw [Bool.or_eq_true]
    right
    exact List.any_eq_true.2 ⟨_, hm, by simp⟩
theorem wit_self {l : List Sp} (h0 : 0 < l.length) : (wit l (l.getD 0 (0, 0)).1 (l.getD 0 (0, 0)).2 0).getD 0 0 = 0 ∧ 1 ≤ (wit l (l.getD 0 (0, 0)).1 (l.getD 0 (0, 0)).2 0).length := by
  have h1 : ∀ n, ∃ t, witN l (l.getD 0 (0, 0)).1 (l.getD 0 (0, 0)).2 0 (n + 1) = 0 :: t := by
    intro n
    induction n with
    | zero =>
      refine ⟨[], ?_⟩
      have : near l (l.getD 0 (0, 0)).1 (l.getD 0 (0, 0)).2 0 0 = true := by
        unfold near farI
        simp
      rw [witN_succ, this]
      rfl
    | succ n ih =>
      obtain ⟨t, ht⟩ := ih
      rw [witN_succ, ht]
      exact ⟨_, rfl⟩
  obtain ⟨t, ht⟩ := h1 (l.length - 1)
  rw [Nat.sub_add_cancel h0] at ht
  unfold wit
  rw [ht]
  exact ⟨rfl, by simp⟩
def sNearMoreB : Spec := fun args _ _ => match args with
  | [.agg [.rs 2 n false f, .int .i64 x, .int .i64 y, .int .i64 r]] => some ⟨[(∀ i, i < n → f i = spF (spL n f) i) ∧ n ≤ maxLen, mayB ((spL n f).take (fewN n)) = false], .bool true, [], []⟩
  | _ => none
def sNearMoreG : Spec := fun args _ _ => match args with
  | [.agg [.rs 2 n false f, .int .i64 x, .int .i64 y, .int .i64 r]] => some ⟨[(∀ i, i < n → f i = spF (spL n f) i) ∧ n ≤ maxLen, mayB ((spL n f).take (fewN n)) = true], .bool true, [], []⟩
  | _ => none
theorem nearMoreB_ok : SpecOK Try.prog 6 sNearMoreB := by
  refine spec_own (by kernel_rfl) T_ok (sget_cons few_ok (sget_cons newB_ok (sget_cons awake_ok sget_nil))) Try.func6 rfl rfl fun args hr nb out e => ?_
  unfold sNearMoreB at e
  split at e
  · rename_i n f x y r
    injection e with e; subst e
    refine ⟨(fun _ h => nomatch h), true, [.agg [.rs 2 n false (spF (spL n f)), .int .i64 x, .int .i64 y, .int .i64 r]], rfl, fun hs => ?_⟩
    obtain ⟨h1, h2⟩ := hs _ List.mem_cons_self
    have h3 := hs _ (List.mem_cons_of_mem _ List.mem_cons_self)
    refine ⟨asked_pass h1, ?_⟩
    clear hs h1
    have hq := @few_len n f
    have hn : spL n (spF (spL n f)) = spL n f := by
      have := spL_spF (spL n f)
      rwa [spL_len] at this
    refine evC_go0 (dec := []) (ks := [(0, 1), (0, 2), (1, 0), (1, 1), (1, 2), (1, 3), (1, 4)]) (s' := ⟨[(0, 1, Cont.cell (AV.ptr 1 0)), (0, 2, Cont.cell (AV.bool false)), (1, 0, Cont.cell (AV.rs 2 n false (spF (spL n f)))), (1, 1, Cont.cell (AV.int IntKind.i64 x)), (1, 2, Cont.cell (AV.int IntKind.i64 y)), (1, 3, Cont.cell (AV.int IntKind.i64 r)), (1, 4, Cont.top)], 65, 182⟩) (by kernel_rfl) (by kernel_rfl) ?_
    refine evC_go (dec := []) (ks := [(0, 2), (0, 3), (0, 4), (0, 5), (0, 6)]) (ps := [(∀ (i : Nat), i < n → spF (spL n f) i = spF (spL n (spF (spL n f))) i) ∧ n ≤ maxLen]) (s' := ⟨[(0, 2, Cont.cell (AV.bool false)), (0, 3, Cont.cell (AV.rs 2 (List.length (List.take (fewN n) (spL n (spF (spL n f))))) false (spF (List.take (fewN n) (spL n (spF (spL n f))))))), (0, 4, Cont.cell (AV.int IntKind.i64 x)), (0, 5, Cont.cell (AV.int IntKind.i64 y)), (0, 6, Cont.cell (AV.int IntKind.i64 r))], 481, 182⟩) (by kernel_rfl) (by kernel_rfl) ?_ ?_
    · exact ⟨fun i hi => by rw [hn], h2⟩
    rw [hn]
    generalize List.take (fewN n) (spL n f) = l at *
    refine evC_go (dec := []) (ks := [(0, 2), (0, 3), (0, 4), (0, 5), (0, 6), (0, 7), (0, 8)]) (ps := [(∀ (i : Nat), i < List.length l → spF l i = spF (spL (List.length l) (spF l)) i) ∧ List.length l ≤ (300 : Nat), mayB (spL (List.length l) (spF l)) = false]) (s' := ⟨[(0, 2, Cont.cell (AV.bool false)), (0, 3, Cont.cell (AV.rs 2 (List.length l) false (spF l))), (0, 4, Cont.cell (AV.int IntKind.i64 x)), (0, 5, Cont.cell (AV.int IntKind.i64 y)), (0, 6, Cont.cell (AV.int IntKind.i64 r)), (0, 7, Cont.cell AV.nilp), (0, 8, Cont.cell (AV.int IntKind.i64 1))], 705, 182⟩) (by kernel_rfl) (by kernel_rfl) ?_ ?_
    · exact ⟨⟨fun i hi => by rw [spL_spF], Nat.le_trans hq (by decide)⟩, by rw [spL_spF]; exact h3⟩
    refine evC_seq ?_
    refine evC_go0 (dec := []) (ks := [(0, 2), (0, 3), (0, 4), (0, 5), (0, 6), (0, 7), (0, 8), (0, 40)]) (s' := ⟨[(0, 2, Cont.cell (AV.bool false)), (0, 3, Cont.cell (AV.rs 2 (List.length l) false (spF l))), (0, 4, Cont.cell (AV.int IntKind.i64 x)), (0, 5, Cont.cell (AV.int IntKind.i64 y)), (0, 6, Cont.cell (AV.int IntKind.i64 r)), (0, 7, Cont.cell AV.nilp), (0, 8, Cont.cell (AV.int IntKind.i64 1)), (0, 40, Cont.cell (AV.bool true))], 897, 182⟩) (by kernel_rfl) (by kernel_rfl) ?_
    refine evC_if (q := true) (by kernel_rfl) (fun hc => ?_) (fun hc => ?_)
    rotate_left
    · cases hc
    refine evC_go0 (dec := []) (ks := [(0, 2), (0, 3), (0, 4), (0, 5), (0, 6), (0, 7)]) (s' := ⟨[(0, 2, Cont.cell (AV.bool true)), (0, 3, Cont.cell (AV.rs 2 (List.length l) false (spF l))), (0, 4, Cont.cell (AV.int IntKind.i64 x)), (0, 5, Cont.cell (AV.int IntKind.i64 y)), (0, 6, Cont.cell (AV.int IntKind.i64 r)), (0, 7, Cont.cell AV.nilp)], 1217, 182⟩) (by kernel_rfl) (by kernel_rfl) ?_
    refine evC_ret ?_
    refine then_ret ?_
    refine post_ret ?_
    refine ends_flat (vs := [AV.bool true]) (Nat.zero_lt_succ _) (by kernel_rfl) (flat_of _ (by kernel_rfl)) rfl ?_
    rfl
  · cases e
theorem nearMoreG_ok : SpecOK Try.prog 6 sNearMoreG := by
  refine spec_own (by kernel_rfl) T_ok (sget_cons few_ok (sget_cons newG_ok (sget_cons awake_ok (sget_cons within_ok (sget_cons nearest_ok sget_nil))))) Try.func6 rfl rfl fun args hr nb out e => ?_
  unfold sNearMoreG at e
  split at e
  · rename_i n f x y r
    injection e with e; subst e
    refine ⟨(fun _ h => nomatch h), true, [.agg [.rs 2 n false (spF (spL n f)), .int .i64 x, .int .i64 y, .int .i64 r]], rfl, fun hs => ?_⟩
    obtain ⟨h1, h2⟩ := hs _ List.mem_cons_self
    have h3 := hs _ (List.mem_cons_of_mem _ List.mem_cons_self)
    refine ⟨asked_pass h1, ?_⟩
    clear hs h1
    have hq := @few_len n f
    have hn : spL n (spF (spL n f)) = spL n f := by
      have := spL_spF (spL n f)
      rwa [spL_len] at this
    refine evC_go0 (dec := []) (ks := [(0, 1), (0, 2), (1, 0), (1, 1), (1, 2), (1, 3), (1, 4)]) (s' := ⟨[(0, 1, Cont.cell (AV.ptr 1 0)), (0, 2, Cont.cell (AV.bool false)), (1, 0, Cont.cell (AV.rs 2 n false (spF (spL n f)))), (1, 1, Cont.cell (AV.int IntKind.i64 x)), (1, 2, Cont.cell (AV.int IntKind.i64 y)), (1, 3, Cont.cell (AV.int IntKind.i64 r)), (1, 4, Cont.top)], 65, 182⟩) (by kernel_rfl) (by kernel_rfl) ?_
    refine evC_go (dec := []) (ks := [(0, 2), (0, 3), (0, 4), (0, 5), (0, 6)]) (ps := [(∀ (i : Nat), i < n → spF (spL n f) i = spF (spL n (spF (spL n f))) i) ∧ n ≤ maxLen]) (s' := ⟨[(0, 2, Cont.cell (AV.bool false)), (0, 3, Cont.cell (AV.rs 2 (List.length (List.take (fewN n) (spL n (spF (spL n f))))) false (spF (List.take (fewN n) (spL n (spF (spL n f))))))), (0, 4, Cont.cell (AV.int IntKind.i64 x)), (0, 5, Cont.cell (AV.int IntKind.i64 y)), (0, 6, Cont.cell (AV.int IntKind.i64 r))], 481, 182⟩) (by kernel_rfl) (by kernel_rfl) ?_ ?_
    · exact ⟨fun i hi => by rw [hn], h2⟩
    rw [hn]
    generalize List.take (fewN n) (spL n f) = l at *
    have hl := mayB_iff.1 h3
    have hl256 := hl.1
    refine evC_go (dec := []) (ks := [(0, 2), (0, 3), (0, 4), (0, 5), (0, 6), (0, 7), (0, 8), (513, 0), (513, 1), (513, 2), (514, 0)]) (ps := [(∀ (i : Nat), i < List.length l → spF l i = spF (spL (List.length l) (spF l)) i) ∧ List.length l ≤ (300 : Nat), mayB (spL (List.length l) (spF l)) = true]) (s' := ⟨[(0, 2, Cont.cell (AV.bool false)), (0, 3, Cont.cell (AV.rs 2 (List.length l) false (spF l))), (0, 4, Cont.cell (AV.int IntKind.i64 x)), (0, 5, Cont.cell (AV.int IntKind.i64 y)), (0, 6, Cont.cell (AV.int IntKind.i64 r)), (0, 7, Cont.cell (AV.ptr 513 0)), (0, 8, Cont.cell (AV.int IntKind.i64 0)), (513, 0, Cont.cell (AV.rs 2 (List.length (spL (List.length l) (spF l))) false (spF (spL (List.length l) (spF l))))), (513, 1, Cont.cell (AV.mp 514)), (513, 2, Cont.top), (514, 0, Cont.map 2 (qmap (sqN (spL (List.length l) (spF l)) (List.length (spL (List.length l) (spF l))))))], 705, 182⟩) (by kernel_rfl) (by kernel_rfl) ?_ ?_
    · exact ⟨⟨fun i hi => by rw [spL_spF], Nat.le_trans hq (by decide)⟩, by rw [spL_spF]; exact h3⟩
    rw [spL_spF]
    refine evC_seq ?_
    refine evC_go0 (dec := []) (ks := [(0, 2), (0, 3), (0, 4), (0, 5), (0, 6), (0, 7), (0, 8), (0, 40), (513, 0), (513, 1), (513, 2), (514, 0)]) (s' := ⟨[(0, 2, Cont.cell (AV.bool false)), (0, 3, Cont.cell (AV.rs 2 (List.length l) false (spF l))), (0, 4, Cont.cell (AV.int IntKind.i64 x)), (0, 5, Cont.cell (AV.int IntKind.i64 y)), (0, 6, Cont.cell (AV.int IntKind.i64 r)), (0, 7, Cont.cell (AV.ptr 513 0)), (0, 8, Cont.cell (AV.int IntKind.i64 0)), (0, 40, Cont.cell (AV.bool false)), (513, 0, Cont.cell (AV.rs 2 (List.length l) false (spF l))), (513, 1, Cont.cell (AV.mp 514)), (513, 2, Cont.top), (514, 0, Cont.map 2 (qmap (sqN l (List.length l))))], 897, 182⟩) (by kernel_rfl) (by kernel_rfl) ?_
    refine evC_if (q := false) (by kernel_rfl) (fun hc => ?_) (fun hc => ?_)
    · cases hc
    refine evC_skip ?_
    refine then_normal ?_
    refine evC_go (dec := []) (ks := [(0, 2), (0, 3), (0, 4), (0, 5), (0, 6), (0, 7), (0, 9), (0, 10), (513, 0), (513, 1), (513, 2), (514, 0)]) (ps := [((0 : Nat) < (513 : Nat) ∧ (0 : Nat) < (514 : Nat) ∧ (513 : Nat) ≠ (514 : Nat)) ∧ spF l = spF (spL (List.length l) (spF l)) ∧ qmap (sqN l (List.length l)) = qmap (sqN (spL (List.length l) (spF l)) (List.length (spL (List.length l) (spF l)))) ∧ InL (spL (List.length l) (spF l))]) (s' := ⟨[(0, 2, Cont.cell (AV.bool false)), (0, 3, Cont.cell (AV.rs 2 (List.length l) false (spF l))), (0, 4, Cont.cell (AV.int IntKind.i64 x)), (0, 5, Cont.cell (AV.int IntKind.i64 y)), (0, 6, Cont.cell (AV.int IntKind.i64 r)), (0, 7, Cont.cell (AV.ptr 513 0)), (0, 9, Cont.cell (AV.rs 1 (List.length (witO (spL (List.length l) (spF l)) x y r)) false (lst (witO (spL (List.length l) (spF l)) x y r)))), (0, 10, Cont.cell (AV.int IntKind.i64 (errF (okW x y r)))), (513, 0, Cont.cell (AV.rs 2 (List.length l) false (spF l))), (513, 1, Cont.cell (AV.mp 514)), (513, 2, Cont.top), (514, 0, Cont.map 2 (qmap (sqN l (List.length l))))], 1217, 182⟩) (by kernel_rfl) (by kernel_rfl) ?_ ?_
    · exact ⟨⟨by decide, by decide, by decide⟩, by rw [idx_eta], by rw [idx_eta], by rw [idx_eta]; exact hl⟩
    rw [idx_eta]
    cases ho : okW x y r with
    | false =>
      have hv : witO l x y r = [] := by unfold witO; rw [ho]; rfl
      rw [hv]
      refine evC_seq ?_
      refine evC_go0 (dec := []) (ks := [(0, 2), (0, 3), (0, 4), (0, 5), (0, 6), (0, 7), (0, 9), (0, 59), (513, 0), (513, 1), (513, 2), (514, 0)]) (s' := ⟨[(0, 2, Cont.cell (AV.bool false)), (0, 3, Cont.cell (AV.rs 2 (List.length l) false (spF l))), (0, 4, Cont.cell (AV.int IntKind.i64 x)), (0, 5, Cont.cell (AV.int IntKind.i64 y)), (0, 6, Cont.cell (AV.int IntKind.i64 r)), (0, 7, Cont.cell (AV.ptr 513 0)), (0, 9, Cont.cell (AV.rs 1 0 false (lst []))), (0, 59, Cont.cell (AV.bool true)), (513, 0, Cont.cell (AV.rs 2 (List.length l) false (spF l))), (513, 1, Cont.cell (AV.mp 514)), (513, 2, Cont.top), (514, 0, Cont.map 2 (qmap (sqN l (List.length l))))], 1281, 182⟩) (by kernel_rfl) (by kernel_rfl) ?_
      refine evC_if (q := true) (by kernel_rfl) (fun hc => ?_) (fun hc => ?_)
      rotate_left
      · cases hc
      refine evC_go0 (dec := []) (ks := [(0, 2), (0, 3), (0, 4), (0, 5), (0, 6), (0, 7), (0, 9), (513, 0), (513, 1), (513, 2), (514, 0)]) (s' := ⟨[(0, 2, Cont.cell (AV.bool true)), (0, 3, Cont.cell (AV.rs 2 (List.length l) false (spF l))), (0, 4, Cont.cell (AV.int IntKind.i64 x)), (0, 5, Cont.cell (AV.int IntKind.i64 y)), (0, 6, Cont.cell (AV.int IntKind.i64 r)), (0, 7, Cont.cell (AV.ptr 513 0)), (0, 9, Cont.cell (AV.rs 1 0 false (lst []))), (513, 0, Cont.cell (AV.rs 2 (List.length l) false (spF l))), (513, 1, Cont.cell (AV.mp 514)), (513, 2, Cont.top), (514, 0, Cont.map 2 (qmap (sqN l (List.length l))))], 1505, 182⟩) (by kernel_rfl) (by kernel_rfl) ?_
      refine evC_ret ?_
      refine then_ret ?_
      refine post_ret ?_
      refine ends_flat (vs := [AV.bool true]) (Nat.zero_lt_succ _) (by kernel_rfl) (flat_of _ (by kernel_rfl)) rfl ?_
      rfl
    | true =>
      have hv : witO l x y r = wit l x y r := by unfold witO; rw [ho]; rfl
      rw [hv]
      obtain ⟨hx, hy, hr1⟩ := okW_of ho
      refine evC_seq ?_
      refine evC_go0 (dec := []) (ks := [(0, 2), (0, 3), (0, 4), (0, 5), (0, 6), (0, 7), (0, 9), (0, 59), (513, 0), (513, 1), (513, 2), (514, 0)]) (s' := ⟨[(0, 2, Cont.cell (AV.bool false)), (0, 3, Cont.cell (AV.rs 2 (List.length l) false (spF l))), (0, 4, Cont.cell (AV.int IntKind.i64 x)), (0, 5, Cont.cell (AV.int IntKind.i64 y)), (0, 6, Cont.cell (AV.int IntKind.i64 r)), (0, 7, Cont.cell (AV.ptr 513 0)), (0, 9, Cont.cell (AV.rs 1 (List.length (wit l x y r)) false (lst (wit l x y r)))), (0, 59, Cont.cell (AV.bool false)), (513, 0, Cont.cell (AV.rs 2 (List.length l) false (spF l))), (513, 1, Cont.cell (AV.mp 514)), (513, 2, Cont.top), (514, 0, Cont.map 2 (qmap (sqN l (List.length l))))], 1281, 182⟩) (by kernel_rfl) (by kernel_rfl) ?_
      refine evC_if (q := false) (by kernel_rfl) (fun hc => ?_) (fun hc => ?_)
      · cases hc
      refine evC_skip ?_
      refine then_normal ?_
      refine evC_go (dec := []) (ks := [(0, 2), (0, 3), (0, 4), (0, 5), (0, 7), (0, 9), (0, 11), (0, 12), (513, 0), (513, 1), (513, 2), (514, 0)]) (ps := [(2 : Int) ≠ (0 : Int), ((0 : Nat) < (513 : Nat) ∧ (0 : Nat) < (514 : Nat) ∧ (513 : Nat) ≠ (514 : Nat)) ∧ spF l = spF (spL (List.length l) (spF l)) ∧ qmap (sqN l (List.length l)) = qmap (sqN (spL (List.length l) (spF l)) (List.length (spL (List.length l) (spF l)))) ∧ InL (spL (List.length l) (spF l))]) (s' := ⟨[(0, 2, Cont.cell (AV.bool false)), (0, 3, Cont.cell (AV.rs 2 (List.length l) false (spF l))), (0, 4, Cont.cell (AV.int IntKind.i64 x)), (0, 5, Cont.cell (AV.int IntKind.i64 y)), (0, 7, Cont.cell (AV.ptr 513 0)), (0, 9, Cont.cell (AV.rs 1 (List.length (wit l x y r)) false (lst (wit l x y r)))), (0, 11, Cont.cell (AV.rs 1 (List.length (witO (spL (List.length l) (spF l)) x y (IntKind.i64.wrap (r + IntKind.i64.wrap (Int.tdiv (IntKind.i64.wrap (67108864 - r)) 2))))) false (lst (witO (spL (List.length l) (spF l)) x y (IntKind.i64.wrap (r + IntKind.i64.wrap (Int.tdiv (IntKind.i64.wrap (67108864 - r)) 2))))))), (0, 12, Cont.cell (AV.int IntKind.i64 (errF (okW x y (IntKind.i64.wrap (r + IntKind.i64.wrap (Int.tdiv (IntKind.i64.wrap (67108864 - r)) 2))))))), (513, 0, Cont.cell (AV.rs 2 (List.length l) false (spF l))), (513, 1, Cont.cell (AV.mp 514)), (513, 2, Cont.top), (514, 0, Cont.map 2 (qmap (sqN l (List.length l))))], 1729, 182⟩) (by kernel_rfl) (by kernel_rfl) ?_ ?_
      · exact ⟨by decide, ⟨by decide, by decide, by decide⟩, by rw [idx_eta], by rw [idx_eta], by rw [idx_eta]; exact hl⟩
      rw [idx_eta, rB_wrap hr1]
      obtain ⟨hb1, hb2⟩ := rB_in hr1
      have hob : okW x y (rB r) = true := by
        unfold okW; rw [inb_iff.2 hx, inb_iff.2 hy, inb_iff.2 hb1]; rfl
      have hvb : witO l x y (rB r) = wit l x y (rB r) := by unfold witO; rw [hob]; rfl
      rw [hvb, hob]
      have hsel := wit_sel (l := l) (x := x) (y := y) hr1.1 hb2
      have hA300 : (wit l x y r).length ≤ 256 := Nat.le_trans (witN_len l x y r _) hl256
      have hB300 : (wit l x y (rB r)).length ≤ 256 := Nat.le_trans (witN_len l x y (rB r) _) hl256
      have hAB : (wit l x y r).length ≤ (wit l x y (rB r)).length := by rw [hsel]; exact sel_len _ _ _ _ _
      have hqq : (inb x && inb y) = true := by rw [inb_iff.2 hx, inb_iff.2 hy]; rfl
      have hall : hasN (wit l x y r) (nstV l x y) (wit l x y r).length = true := by
        cases h0 : (l.length == 0) with
        | true =>
          have h0 : l.length = 0 := by simpa using h0
          have h1 : (wit l x y r).length = 0 := by have := witN_len l x y r l.length; unfold wit; omega
          unfold hasN
          rw [h1]
          rfl
        | false =>
          have : nstV l x y = (nst l x y : Nat) := by unfold nstV; rw [hqq, h0]; rfl
          rw [this]
          exact hasN_all
      have hne : (nstE l x y == 0) = decide (0 < l.length) := by
        unfold nstE
        rw [hqq]
        cases h0 : (l.length == 0) with
        | true =>
          have h0 : l.length = 0 := by simpa using h0
          rw [h0]; rfl
        | false =>
          have h0 : l.length ≠ 0 := by simpa using h0
          rw [decide_eq_true (by omega)]; rfl
      clear hv hvb
      generalize wit l x y r = A at *
      generalize wit l x y (rB r) = B at *
      refine evC_seq ?_
      refine evC_go0 (dec := []) (ks := [(0, 2), (0, 3), (0, 4), (0, 5), (0, 7), (0, 9), (0, 11), (0, 86), (513, 0), (513, 1), (513, 2), (514, 0)]) (s' := ⟨[(0, 2, Cont.cell (AV.bool false)), (0, 3, Cont.cell (AV.rs 2 (List.length l) false (spF l))), (0, 4, Cont.cell (AV.int IntKind.i64 x)), (0, 5, Cont.cell (AV.int IntKind.i64 y)), (0, 7, Cont.cell (AV.ptr 513 0)), (0, 9, Cont.cell (AV.rs 1 (List.length A) false (lst A))), (0, 11, Cont.cell (AV.rs 1 (List.length B) false (lst B))), (0, 86, Cont.cell (AV.bool (bif errF true != 0 then true else decide ((↑(List.length B) : Int) < (↑(List.length A) : Int))))), (513, 0, Cont.cell (AV.rs 2 (List.length l) false (spF l))), (513, 1, Cont.cell (AV.mp 514)), (513, 2, Cont.top), (514, 0, Cont.map 2 (qmap (sqN l (List.length l))))], 2017, 182⟩) (by kernel_rfl) (by kernel_rfl) ?_
      refine evC_if (q := bif errF true != 0 then true else decide ((↑(List.length B) : Int) < (↑(List.length A) : Int))) (by kernel_rfl) (fun hc => ?_) (fun hc => ?_)
      · exfalso
        have := of_decide_eq_true hc
        omega
      clear hc
      refine evC_skip ?_
      refine then_normal ?_
      refine evC_go0 (dec := []) (ks := [(0, 2), (0, 3), (0, 4), (0, 5), (0, 7), (0, 9), (0, 11), (0, 13), (513, 0), (513, 1), (513, 2), (514, 0)]) (s' := ⟨[(0, 2, Cont.cell (AV.bool false)), (0, 3, Cont.cell (AV.rs 2 (List.length l) false (spF l))), (0, 4, Cont.cell (AV.int IntKind.i64 x)), (0, 5, Cont.cell (AV.int IntKind.i64 y)), (0, 7, Cont.cell (AV.ptr 513 0)), (0, 9, Cont.cell (AV.rs 1 (List.length A) false (lst A))), (0, 11, Cont.cell (AV.rs 1 (List.length B) false (lst B))), (0, 13, Cont.cell (AV.int IntKind.i64 0)), (513, 0, Cont.cell (AV.rs 2 (List.length l) false (spF l))), (513, 1, Cont.cell (AV.mp 514)), (513, 2, Cont.top), (514, 0, Cont.map 2 (qmap (sqN l (List.length l))))], 2049, 182⟩) (by kernel_rfl) (by kernel_rfl) ?_
      refine evC_seq ?_
      refine evC_go0 (dec := []) (ks := [(0, 2), (0, 3), (0, 4), (0, 5), (0, 7), (0, 9), (0, 11), (0, 13), (0, 14), (513, 0), (513, 1), (513, 2), (514, 0)]) (s' := ⟨[(0, 2, Cont.cell (AV.bool false)), (0, 3, Cont.cell (AV.rs 2 (List.length l) false (spF l))), (0, 4, Cont.cell (AV.int IntKind.i64 x)), (0, 5, Cont.cell (AV.int IntKind.i64 y)), (0, 7, Cont.cell (AV.ptr 513 0)), (0, 9, Cont.cell (AV.rs 1 (List.length A) false (lst A))), (0, 11, Cont.cell (AV.rs 1 (List.length B) false (lst B))), (0, 13, Cont.cell (AV.int IntKind.i64 0)), (0, 14, Cont.cell (AV.int IntKind.i64 0)), (513, 0, Cont.cell (AV.rs 2 (List.length l) false (spF l))), (513, 1, Cont.cell (AV.mp 514)), (513, 2, Cont.top), (514, 0, Cont.map 2 (qmap (sqN l (List.length l))))], 2081, 182⟩) (by kernel_rfl) (by kernel_rfl) ?_
      refine evC_block ?_
      refine evC_loop (ι := { j : Nat // j ≤ B.length }) (fun j => ⟨[(0, 2, Cont.cell (AV.bool false)), (0, 3, Cont.cell (AV.rs 2 (List.length l) false (spF l))), (0, 4, Cont.cell (AV.int IntKind.i64 x)), (0, 5, Cont.cell (AV.int IntKind.i64 y)), (0, 7, Cont.cell (AV.ptr 1 0)), (0, 9, Cont.cell (AV.rs 1 (List.length A) false (lst A))), (0, 11, Cont.cell (AV.rs 1 (List.length B) false (lst B))), (0, 13, .cell (.int .i64 (kAt l x y r B j.1 : Nat))), (0, 14, .cell (.int .i64 (j.1 : Nat))), (1, 0, Cont.cell (AV.rs 2 (List.length l) false (spF l))), (1, 1, Cont.cell (AV.mp 2)), (1, 2, Cont.top), (2, 0, Cont.map 2 (qmap (sqN l (List.length l))))], 3, 182⟩) (fun j => B.length - j.1) ⟨0, Nat.zero_le _⟩ (wk_go [513, 514] rfl (by decide) rfl rfl ⟨⟨_, rfl, rfl⟩, ⟨_, rfl, rfl⟩, ⟨_, rfl, rfl⟩, ⟨_, rfl, rfl⟩, ⟨_, rfl, rfl⟩, ⟨_, rfl, rfl⟩, ⟨_, rfl, rfl⟩, ⟨_, rfl, rfl⟩, ⟨_, rfl, rfl⟩, ⟨_, rfl, rfl⟩, ⟨_, rfl, rfl⟩, ⟨_, rfl, trivial⟩, ⟨_, rfl, Go.Eng.S12.cw_qmap _⟩, trivial⟩) ?_
      · rintro ⟨j, hj⟩
        have hj : j ≤ B.length := hj
        have hka := kAt_le l x y r B j
        rw [← hsel] at hka
        refine evC_seq ?_
        refine evC_go0 (dec := []) (ks := [(0, 2), (0, 3), (0, 4), (0, 5), (0, 7), (0, 9), (0, 11), (0, 13), (0, 14), (0, 90), (1, 0), (1, 1), (1, 2), (2, 0)]) (s' := ⟨[(0, 2, Cont.cell (AV.bool false)), (0, 3, Cont.cell (AV.rs 2 (List.length l) false (spF l))), (0, 4, Cont.cell (AV.int IntKind.i64 x)), (0, 5, Cont.cell (AV.int IntKind.i64 y)), (0, 7, Cont.cell (AV.ptr 1 0)), (0, 9, Cont.cell (AV.rs 1 (List.length A) false (lst A))), (0, 11, Cont.cell (AV.rs 1 (List.length B) false (lst B))), (0, 13, Cont.cell (AV.int IntKind.i64 (↑(kAt l x y r B j) : Int))), (0, 14, Cont.cell (AV.int IntKind.i64 (↑j : Int))), (0, 90, Cont.cell (AV.bool (decide ((↑j : Int) < (↑(List.length B) : Int))))), (1, 0, Cont.cell (AV.rs 2 (List.length l) false (spF l))), (1, 1, Cont.cell (AV.mp 2)), (1, 2, Cont.top), (2, 0, Cont.map 2 (qmap (sqN l (List.length l))))], 131, 182⟩) (by kernel_rfl) (by kernel_rfl) ?_
        refine evC_if (q := decide ((↑j : Int) < (↑(List.length B) : Int))) (by kernel_rfl) (fun hc => ?_) (fun hc => ?_)
        · have hlt : j < B.length := by have := of_decide_eq_true hc; omega
          clear hc
          cases hn : near l x y r (B.getD j 0).toNat with
          | true =>
            obtain ⟨q1, q2, q3⟩ := kAt_hit hlt hn
            rw [← hsel] at q1 q2
            refine evC_skip ?_
            refine then_normal ?_
            refine evC_seq ?_
            refine evC_block ?_
            refine evC_go (dec := []) (ks := [(0, 2), (0, 3), (0, 4), (0, 5), (0, 7), (0, 9), (0, 11), (0, 13), (0, 14), (0, 107), (1, 0), (1, 1), (1, 2), (2, 0)]) (ps := [List.all [decide ((↑(kAt l x y r B j) : Int) < (↑(List.length A) : Int))] id = true → (0 : Int) ≤ (↑(kAt l x y r B j) : Int), List.all [decide ((↑(kAt l x y r B j) : Int) < (↑(List.length A) : Int))] id = true → (↑(kAt l x y r B j) : Int) < (↑(List.length A) : Int), List.all [decide ((↑(kAt l x y r B j) : Int) < (↑(List.length A) : Int))] id = true → (1 : Nat) = (1 : Nat), List.all [decide ((↑(kAt l x y r B j) : Int) < (↑(List.length A) : Int))] id = true → (0 : Int) ≤ (↑j : Int), List.all [decide ((↑(kAt l x y r B j) : Int) < (↑(List.length A) : Int))] id = true → (↑j : Int) < (↑(List.length B) : Int), List.all [decide ((↑(kAt l x y r B j) : Int) < (↑(List.length A) : Int))] id = true → (1 : Nat) = (1 : Nat)]) (s' := ⟨[(0, 2, Cont.cell (AV.bool false)), (0, 3, Cont.cell (AV.rs 2 (List.length l) false (spF l))), (0, 4, Cont.cell (AV.int IntKind.i64 x)), (0, 5, Cont.cell (AV.int IntKind.i64 y)), (0, 7, Cont.cell (AV.ptr 1 0)), (0, 9, Cont.cell (AV.rs 1 (List.length A) false (lst A))), (0, 11, Cont.cell (AV.rs 1 (List.length B) false (lst B))), (0, 13, Cont.cell (AV.int IntKind.i64 (↑(kAt l x y r B j) : Int))), (0, 14, Cont.cell (AV.int IntKind.i64 (↑j : Int))), (0, 107, Cont.cell (AV.bool (bif decide ((↑(kAt l x y r B j) : Int) < (↑(List.length A) : Int)) then List.getD A (kAt l x y r B j) 0 == List.getD B j 0 else false))), (1, 0, Cont.cell (AV.rs 2 (List.length l) false (spF l))), (1, 1, Cont.cell (AV.mp 2)), (1, 2, Cont.top), (2, 0, Cont.map 2 (qmap (sqN l (List.length l))))], 611, 182⟩) (by kernel_rfl) (by kernel_rfl) ?_ ?_
            · exact ⟨fun _ => by omega, fun _ => by omega, fun _ => rfl, fun _ => by omega, fun _ => by omega, fun _ => rfl⟩
            have hbv : (bif decide (((kAt l x y r B j : Nat) : Int) < (A.length : Nat)) then A.getD (kAt l x y r B j) 0 == B.getD j 0 else false) = true := by
              rw [decide_eq_true (by omega), cond_true, q2, beq_self_eq_true]
            rw [hbv]
            refine evC_if (q := true) (by kernel_rfl) (fun hc => ?_) (fun hc => ?_)
            · refine evC_goL0 (dec := []) (ks := [(0, 2), (0, 3), (0, 4), (0, 5), (0, 7), (0, 9), (0, 11), (0, 13), (0, 14), (1, 0), (1, 1), (1, 2), (2, 0)]) (s' := ⟨[(0, 2, Cont.cell (AV.bool false)), (0, 3, Cont.cell (AV.rs 2 (List.length l) false (spF l))), (0, 4, Cont.cell (AV.int IntKind.i64 x)), (0, 5, Cont.cell (AV.int IntKind.i64 y)), (0, 7, Cont.cell (AV.ptr 1 0)), (0, 9, Cont.cell (AV.rs 1 (List.length A) false (lst A))), (0, 11, Cont.cell (AV.rs 1 (List.length B) false (lst B))), (0, 13, Cont.cell (AV.int IntKind.i64 (IntKind.i64.wrap ((↑(kAt l x y r B j) : Int) + 1)))), (0, 14, Cont.cell (AV.int IntKind.i64 (↑j : Int))), (1, 0, Cont.cell (AV.rs 2 (List.length l) false (spF l))), (1, 1, Cont.cell (AV.mp 2)), (1, 2, Cont.top), (2, 0, Cont.map 2 (qmap (sqN l (List.length l))))], 707, 182⟩) (by kernel_rfl) (by kernel_rfl) ?_
              refine block_normal ?_
              refine then_normal ?_
              refine evC_goL0 (dec := []) (ks := [(0, 2), (0, 3), (0, 4), (0, 5), (0, 7), (0, 9), (0, 11), (0, 13), (0, 14), (1, 0), (1, 1), (1, 2), (2, 0)]) (s' := ⟨[(0, 2, Cont.cell (AV.bool false)), (0, 3, Cont.cell (AV.rs 2 (List.length l) false (spF l))), (0, 4, Cont.cell (AV.int IntKind.i64 x)), (0, 5, Cont.cell (AV.int IntKind.i64 y)), (0, 7, Cont.cell (AV.ptr 1 0)), (0, 9, Cont.cell (AV.rs 1 (List.length A) false (lst A))), (0, 11, Cont.cell (AV.rs 1 (List.length B) false (lst B))), (0, 13, Cont.cell (AV.int IntKind.i64 (IntKind.i64.wrap ((↑(kAt l x y r B j) : Int) + 1)))), (0, 14, Cont.cell (AV.int IntKind.i64 (IntKind.i64.wrap ((↑j : Int) + 1)))), (1, 0, Cont.cell (AV.rs 2 (List.length l) false (spF l))), (1, 1, Cont.cell (AV.mp 2)), (1, 2, Cont.top), (2, 0, Cont.map 2 (qmap (sqN l (List.length l))))], 803, 182⟩) (by kernel_rfl) (by kernel_rfl) ?_
              rw [wrap_add_one q1 (by omega), wrap_add_one hlt (by omega)]
              refine round_normal (⟨j + 1, hlt⟩) (wk_go [1, 2] rfl (by decide) rfl rfl ⟨⟨_, rfl, rfl⟩, ⟨_, rfl, rfl⟩, ⟨_, rfl, rfl⟩, ⟨_, rfl, rfl⟩, ⟨_, rfl, rfl⟩, ⟨_, rfl, rfl⟩, ⟨_, rfl, rfl⟩, ⟨_, rfl, ?_⟩, ⟨_, rfl, rfl⟩, ⟨_, rfl, rfl⟩, ⟨_, rfl, rfl⟩, ⟨_, rfl, trivial⟩, ⟨_, rfl, Go.Eng.S12.cw_qmap _⟩, trivial⟩) ?_
              · rw [q3]; rfl
              · show B.length - (j + 1) < B.length - j; omega
            · cases hc
          | false =>
            obtain ⟨q1, q2⟩ := kAt_miss hlt hn
            rw [← hsel] at q2
            refine evC_skip ?_
            refine then_normal ?_
            refine evC_seq ?_
            refine evC_block ?_
            refine evC_go (dec := []) (ks := [(0, 2), (0, 3), (0, 4), (0, 5), (0, 7), (0, 9), (0, 11), (0, 13), (0, 14), (0, 107), (1, 0), (1, 1), (1, 2), (2, 0)]) (ps := [List.all [decide ((↑(kAt l x y r B j) : Int) < (↑(List.length A) : Int))] id = true → (0 : Int) ≤ (↑(kAt l x y r B j) : Int), List.all [decide ((↑(kAt l x y r B j) : Int) < (↑(List.length A) : Int))] id = true → (↑(kAt l x y r B j) : Int) < (↑(List.length A) : Int), List.all [decide ((↑(kAt l x y r B j) : Int) < (↑(List.length A) : Int))] id = true → (1 : Nat) = (1 : Nat), List.all [decide ((↑(kAt l x y r B j) : Int) < (↑(List.length A) : Int))] id = true → (0 : Int) ≤ (↑j : Int), List.all [decide ((↑(kAt l x y r B j) : Int) < (↑(List.length A) : Int))] id = true → (↑j : Int) < (↑(List.length B) : Int), List.all [decide ((↑(kAt l x y r B j) : Int) < (↑(List.length A) : Int))] id = true → (1 : Nat) = (1 : Nat)]) (s' := ⟨[(0, 2, Cont.cell (AV.bool false)), (0, 3, Cont.cell (AV.rs 2 (List.length l) false (spF l))), (0, 4, Cont.cell (AV.int IntKind.i64 x)), (0, 5, Cont.cell (AV.int IntKind.i64 y)), (0, 7, Cont.cell (AV.ptr 1 0)), (0, 9, Cont.cell (AV.rs 1 (List.length A) false (lst A))), (0, 11, Cont.cell (AV.rs 1 (List.length B) false (lst B))), (0, 13, Cont.cell (AV.int IntKind.i64 (↑(kAt l x y r B j) : Int))), (0, 14, Cont.cell (AV.int IntKind.i64 (↑j : Int))), (0, 107, Cont.cell (AV.bool (bif decide ((↑(kAt l x y r B j) : Int) < (↑(List.length A) : Int)) then List.getD A (kAt l x y r B j) 0 == List.getD B j 0 else false))), (1, 0, Cont.cell (AV.rs 2 (List.length l) false (spF l))), (1, 1, Cont.cell (AV.mp 2)), (1, 2, Cont.top), (2, 0, Cont.map 2 (qmap (sqN l (List.length l))))], 611, 182⟩) (by kernel_rfl) (by kernel_rfl) ?_ ?_
            · exact ⟨fun _ => by omega, fun h => by simpa using h, fun _ => rfl, fun _ => by omega, fun _ => by omega, fun _ => rfl⟩
            have hbv : (bif decide (((kAt l x y r B j : Nat) : Int) < (A.length : Nat)) then A.getD (kAt l x y r B j) 0 == B.getD j 0 else false) = false := by
              by_cases hk : kAt l x y r B j < A.length
              · rw [decide_eq_true (by omega), cond_true]
                simpa using q2 hk
              · rw [decide_eq_false (by omega)]; rfl
            rw [hbv]
            refine evC_if (q := false) (by kernel_rfl) (fun hc => ?_) (fun hc => ?_)
            · cases hc
            refine evC_skip ?_
            refine block_normal ?_
            refine then_normal ?_
            refine evC_goL0 (dec := []) (ks := [(0, 2), (0, 3), (0, 4), (0, 5), (0, 7), (0, 9), (0, 11), (0, 13), (0, 14), (1, 0), (1, 1), (1, 2), (2, 0)]) (s' := ⟨[(0, 2, Cont.cell (AV.bool false)), (0, 3, Cont.cell (AV.rs 2 (List.length l) false (spF l))), (0, 4, Cont.cell (AV.int IntKind.i64 x)), (0, 5, Cont.cell (AV.int IntKind.i64 y)), (0, 7, Cont.cell (AV.ptr 1 0)), (0, 9, Cont.cell (AV.rs 1 (List.length A) false (lst A))), (0, 11, Cont.cell (AV.rs 1 (List.length B) false (lst B))), (0, 13, Cont.cell (AV.int IntKind.i64 (↑(kAt l x y r B j) : Int))), (0, 14, Cont.cell (AV.int IntKind.i64 (IntKind.i64.wrap ((↑j : Int) + 1)))), (1, 0, Cont.cell (AV.rs 2 (List.length l) false (spF l))), (1, 1, Cont.cell (AV.mp 2)), (1, 2, Cont.top), (2, 0, Cont.map 2 (qmap (sqN l (List.length l))))], 707, 182⟩) (by kernel_rfl) (by kernel_rfl) ?_
            rw [wrap_add_one hlt (by omega)]
            refine round_normal (⟨j + 1, hlt⟩) (wk_go [1, 2] rfl (by decide) rfl rfl ⟨⟨_, rfl, rfl⟩, ⟨_, rfl, rfl⟩, ⟨_, rfl, rfl⟩, ⟨_, rfl, rfl⟩, ⟨_, rfl, rfl⟩, ⟨_, rfl, rfl⟩, ⟨_, rfl, rfl⟩, ⟨_, rfl, ?_⟩, ⟨_, rfl, rfl⟩, ⟨_, rfl, rfl⟩, ⟨_, rfl, rfl⟩, ⟨_, rfl, trivial⟩, ⟨_, rfl, Go.Eng.S12.cw_qmap _⟩, trivial⟩) ?_
            · rw [q1]; rfl
            · show B.length - (j + 1) < B.length - j; omega
        · have hin : j = B.length := by have := of_decide_eq_false hc; omega
          subst hin
          clear hc
          have hkl : kAt l x y r B B.length = A.length := by unfold kAt; rw [List.take_length, ← hsel]
          refine evC_exit ?_
          refine then_exit ?_
          refine round_exit ?_
          refine block_exit ?_
          refine then_normal ?_
          refine evC_go (dec := []) (ks := [(0, 2), (0, 3), (0, 7), (0, 9), (0, 13), (0, 15), (0, 16), (1, 0), (1, 1), (1, 2), (2, 0)]) (ps := [((0 : Nat) < (1 : Nat) ∧ (0 : Nat) < (2 : Nat) ∧ (1 : Nat) ≠ (2 : Nat)) ∧ spF l = spF (spL (List.length l) (spF l)) ∧ qmap (sqN l (List.length l)) = qmap (sqN (spL (List.length l) (spF l)) (List.length (spL (List.length l) (spF l)))) ∧ InL (spL (List.length l) (spF l))]) (s' := ⟨[(0, 2, Cont.cell (AV.bool false)), (0, 3, Cont.cell (AV.rs 2 (List.length l) false (spF l))), (0, 7, Cont.cell (AV.ptr 1 0)), (0, 9, Cont.cell (AV.rs 1 (List.length A) false (lst A))), (0, 13, Cont.cell (AV.int IntKind.i64 (↑(kAt l x y r B (List.length B)) : Int))), (0, 15, Cont.cell (AV.int IntKind.i64 (nstV (spL (List.length l) (spF l)) x y))), (0, 16, Cont.cell (AV.int IntKind.i64 (nstE (spL (List.length l) (spF l)) x y))), (1, 0, Cont.cell (AV.rs 2 (List.length l) false (spF l))), (1, 1, Cont.cell (AV.mp 2)), (1, 2, Cont.top), (2, 0, Cont.map 2 (qmap (sqN l (List.length l))))], 419, 182⟩) (by kernel_rfl) (by kernel_rfl) ?_ ?_
          · exact ⟨⟨by decide, by decide, by decide⟩, by rw [idx_eta], by rw [idx_eta], by rw [idx_eta]; exact hl⟩
          rw [idx_eta, hkl]
          generalize nstV l x y = e0 at *
          refine evC_go0 (dec := []) (ks := [(0, 2), (0, 3), (0, 7), (0, 9), (0, 13), (0, 15), (0, 16), (0, 17), (1, 0), (1, 1), (1, 2), (2, 0)]) (s' := ⟨[(0, 2, Cont.cell (AV.bool false)), (0, 3, Cont.cell (AV.rs 2 (List.length l) false (spF l))), (0, 7, Cont.cell (AV.ptr 1 0)), (0, 9, Cont.cell (AV.rs 1 (List.length A) false (lst A))), (0, 13, Cont.cell (AV.int IntKind.i64 (↑(List.length A) : Int))), (0, 15, Cont.cell (AV.int IntKind.i64 e0)), (0, 16, Cont.cell (AV.int IntKind.i64 (nstE l x y))), (0, 17, Cont.cell (AV.bool ((↑(List.length A) : Int) == 0))), (1, 0, Cont.cell (AV.rs 2 (List.length l) false (spF l))), (1, 1, Cont.cell (AV.mp 2)), (1, 2, Cont.top), (2, 0, Cont.map 2 (qmap (sqN l (List.length l))))], 547, 182⟩) (by kernel_rfl) (by kernel_rfl) ?_
          rw [show (((A.length : Nat) : Int) == 0) = hasN A e0 0 by unfold hasN; rw [List.take_zero, Bool.eq_iff_iff]; simp]
          refine evC_seq ?_
          refine evC_go0 (dec := []) (ks := [(0, 2), (0, 3), (0, 7), (0, 9), (0, 13), (0, 15), (0, 16), (0, 17), (0, 18), (1, 0), (1, 1), (1, 2), (2, 0)]) (s' := ⟨[(0, 2, Cont.cell (AV.bool false)), (0, 3, Cont.cell (AV.rs 2 (List.length l) false (spF l))), (0, 7, Cont.cell (AV.ptr 1 0)), (0, 9, Cont.cell (AV.rs 1 (List.length A) false (lst A))), (0, 13, Cont.cell (AV.int IntKind.i64 (↑(List.length A) : Int))), (0, 15, Cont.cell (AV.int IntKind.i64 e0)), (0, 16, Cont.cell (AV.int IntKind.i64 (nstE l x y))), (0, 17, Cont.cell (AV.bool (hasN A e0 0))), (0, 18, Cont.cell (AV.int IntKind.i64 0)), (1, 0, Cont.cell (AV.rs 2 (List.length l) false (spF l))), (1, 1, Cont.cell (AV.mp 2)), (1, 2, Cont.top), (2, 0, Cont.map 2 (qmap (sqN l (List.length l))))], 579, 182⟩) (by kernel_rfl) (by kernel_rfl) ?_
          refine evC_block ?_
          refine evC_loop (ι := { i : Nat // i ≤ A.length }) (fun i => ⟨[(0, 2, Cont.cell (AV.bool false)), (0, 3, Cont.cell (AV.rs 2 (List.length l) false (spF l))), (0, 7, Cont.cell (AV.ptr 1 0)), (0, 9, Cont.cell (AV.rs 1 (List.length A) false (lst A))), (0, 13, Cont.cell (AV.int IntKind.i64 (↑(List.length A) : Int))), (0, 15, Cont.cell (AV.int IntKind.i64 e0)), (0, 16, Cont.cell (AV.int IntKind.i64 (nstE l x y))), (0, 17, .cell (.bool (hasN A e0 i.1))), (0, 18, .cell (.int .i64 (i.1 : Nat))), (1, 0, Cont.cell (AV.rs 2 (List.length l) false (spF l))), (1, 1, Cont.cell (AV.mp 2)), (1, 2, Cont.top), (2, 0, Cont.map 2 (qmap (sqN l (List.length l))))], 3, 182⟩) (fun i => A.length - i.1) ⟨0, Nat.zero_le _⟩ (wk_go [1, 2] rfl (by decide) rfl rfl ⟨⟨_, rfl, rfl⟩, ⟨_, rfl, rfl⟩, ⟨_, rfl, rfl⟩, ⟨_, rfl, rfl⟩, ⟨_, rfl, rfl⟩, ⟨_, rfl, rfl⟩, ⟨_, rfl, rfl⟩, ⟨_, rfl, rfl⟩, ⟨_, rfl, rfl⟩, ⟨_, rfl, rfl⟩, ⟨_, rfl, rfl⟩, ⟨_, rfl, trivial⟩, ⟨_, rfl, Go.Eng.S12.cw_qmap _⟩, trivial⟩) ?_
          · rintro ⟨i, hi⟩
            have hi : i ≤ A.length := hi
            refine evC_seq ?_
            refine evC_go0 (dec := []) (ks := [(0, 2), (0, 3), (0, 7), (0, 9), (0, 13), (0, 15), (0, 16), (0, 17), (0, 18), (0, 123), (1, 0), (1, 1), (1, 2), (2, 0)]) (s' := ⟨[(0, 2, Cont.cell (AV.bool false)), (0, 3, Cont.cell (AV.rs 2 (List.length l) false (spF l))), (0, 7, Cont.cell (AV.ptr 1 0)), (0, 9, Cont.cell (AV.rs 1 (List.length A) false (lst A))), (0, 13, Cont.cell (AV.int IntKind.i64 (↑(List.length A) : Int))), (0, 15, Cont.cell (AV.int IntKind.i64 e0)), (0, 16, Cont.cell (AV.int IntKind.i64 (nstE l x y))), (0, 17, Cont.cell (AV.bool (hasN A e0 i))), (0, 18, Cont.cell (AV.int IntKind.i64 (↑i : Int))), (0, 123, Cont.cell (AV.bool (decide ((↑i : Int) < (↑(List.length A) : Int))))), (1, 0, Cont.cell (AV.rs 2 (List.length l) false (spF l))), (1, 1, Cont.cell (AV.mp 2)), (1, 2, Cont.top), (2, 0, Cont.map 2 (qmap (sqN l (List.length l))))], 131, 182⟩) (by kernel_rfl) (by kernel_rfl) ?_
            refine evC_if (q := decide ((↑i : Int) < (↑(List.length A) : Int))) (by kernel_rfl) (fun hc => ?_) (fun hc => ?_)
            · have hlt : i < A.length := by have := of_decide_eq_true hc; omega
              clear hc
              refine evC_skip ?_
              refine then_normal ?_
              refine evC_seq ?_
              refine evC_block ?_
              refine evC_goL (dec := []) (ks := [(0, 2), (0, 3), (0, 7), (0, 9), (0, 13), (0, 15), (0, 16), (0, 17), (0, 18), (1, 0), (1, 1), (1, 2), (2, 0)]) (ps := [List.all [!hasN A e0 i] id = true → (0 : Int) ≤ (↑i : Int), List.all [!hasN A e0 i] id = true → (↑i : Int) < (↑(List.length A) : Int), List.all [!hasN A e0 i] id = true → (1 : Nat) = (1 : Nat)]) (s' := ⟨[(0, 2, Cont.cell (AV.bool false)), (0, 3, Cont.cell (AV.rs 2 (List.length l) false (spF l))), (0, 7, Cont.cell (AV.ptr 1 0)), (0, 9, Cont.cell (AV.rs 1 (List.length A) false (lst A))), (0, 13, Cont.cell (AV.int IntKind.i64 (↑(List.length A) : Int))), (0, 15, Cont.cell (AV.int IntKind.i64 e0)), (0, 16, Cont.cell (AV.int IntKind.i64 (nstE l x y))), (0, 17, Cont.cell (AV.bool (bif hasN A e0 i then true else List.getD A i 0 == e0))), (0, 18, Cont.cell (AV.int IntKind.i64 (↑i : Int))), (1, 0, Cont.cell (AV.rs 2 (List.length l) false (spF l))), (1, 1, Cont.cell (AV.mp 2)), (1, 2, Cont.top), (2, 0, Cont.map 2 (qmap (sqN l (List.length l))))], 451, 182⟩) (by kernel_rfl) (by kernel_rfl) ?_ ?_
              · exact ⟨fun _ => by omega, fun _ => by omega, fun _ => rfl⟩
              rw [cond_or, ← hasN_succ hlt]
              refine block_normal ?_
              refine then_normal ?_
              refine evC_goL0 (dec := []) (ks := [(0, 2), (0, 3), (0, 7), (0, 9), (0, 13), (0, 15), (0, 16), (0, 17), (0, 18), (1, 0), (1, 1), (1, 2), (2, 0)]) (s' := ⟨[(0, 2, Cont.cell (AV.bool false)), (0, 3, Cont.cell (AV.rs 2 (List.length l) false (spF l))), (0, 7, Cont.cell (AV.ptr 1 0)), (0, 9, Cont.cell (AV.rs 1 (List.length A) false (lst A))), (0, 13, Cont.cell (AV.int IntKind.i64 (↑(List.length A) : Int))), (0, 15, Cont.cell (AV.int IntKind.i64 e0)), (0, 16, Cont.cell (AV.int IntKind.i64 (nstE l x y))), (0, 17, Cont.cell (AV.bool (hasN A e0 (i + 1)))), (0, 18, Cont.cell (AV.int IntKind.i64 (IntKind.i64.wrap ((↑i : Int) + 1)))), (1, 0, Cont.cell (AV.rs 2 (List.length l) false (spF l))), (1, 1, Cont.cell (AV.mp 2)), (1, 2, Cont.top), (2, 0, Cont.map 2 (qmap (sqN l (List.length l))))], 547, 182⟩) (by kernel_rfl) (by kernel_rfl) ?_
              rw [wrap_add_one hlt (by omega)]
              refine round_normal (⟨i + 1, hlt⟩) (wk_go [1, 2] rfl (by decide) rfl rfl ⟨⟨_, rfl, rfl⟩, ⟨_, rfl, rfl⟩, ⟨_, rfl, rfl⟩, ⟨_, rfl, rfl⟩, ⟨_, rfl, rfl⟩, ⟨_, rfl, rfl⟩, ⟨_, rfl, rfl⟩, ⟨_, rfl, rfl⟩, ⟨_, rfl, rfl⟩, ⟨_, rfl, rfl⟩, ⟨_, rfl, rfl⟩, ⟨_, rfl, trivial⟩, ⟨_, rfl, Go.Eng.S12.cw_qmap _⟩, trivial⟩) ?_
              show A.length - (i + 1) < A.length - i; omega
            · have hin : i = A.length := by have := of_decide_eq_false hc; omega
              subst hin
              clear hc
              rw [hall]
              refine evC_exit ?_
              refine then_exit ?_
              refine round_exit ?_
              refine block_exit ?_
              refine then_normal ?_
              refine evC_seq ?_
              refine evC_go0 (dec := []) (ks := [(0, 2), (0, 3), (0, 7), (0, 9), (0, 13), (0, 16), (0, 17), (0, 137), (1, 0), (1, 1), (1, 2), (2, 0)]) (s' := ⟨[(0, 2, Cont.cell (AV.bool false)), (0, 3, Cont.cell (AV.rs 2 (List.length l) false (spF l))), (0, 7, Cont.cell (AV.ptr 1 0)), (0, 9, Cont.cell (AV.rs 1 (List.length A) false (lst A))), (0, 13, Cont.cell (AV.int IntKind.i64 (↑(List.length A) : Int))), (0, 16, Cont.cell (AV.int IntKind.i64 (nstE l x y))), (0, 17, Cont.cell (AV.bool true)), (0, 137, Cont.cell (AV.bool (decide ((↑(List.length l) : Int) > 0)))), (1, 0, Cont.cell (AV.rs 2 (List.length l) false (spF l))), (1, 1, Cont.cell (AV.mp 2)), (1, 2, Cont.top), (2, 0, Cont.map 2 (qmap (sqN l (List.length l))))], 227, 182⟩) (by kernel_rfl) (by kernel_rfl) ?_
              refine evC_cutThen (ι := Unit) (fun _ => ⟨[(0, 2, Cont.cell (AV.bool false)), (0, 3, Cont.cell (AV.rs 2 (List.length l) false (spF l))), (0, 7, Cont.cell (AV.ptr 1 0)), (0, 9, Cont.cell (AV.rs 1 (List.length A) false (lst A))), (0, 13, Cont.cell (AV.int IntKind.i64 (↑(List.length A) : Int))), (0, 16, Cont.cell (AV.int IntKind.i64 (nstE l x y))), (0, 17, Cont.cell (AV.bool true)), (0, 137, Cont.cell (AV.bool (decide ((↑(List.length l) : Int) > 0)))), (1, 0, Cont.cell (AV.rs 2 (List.length l) false (spF l))), (1, 1, Cont.cell (AV.mp 2)), (1, 2, Cont.top), (2, 0, Cont.map 2 (qmap (sqN l (List.length l))))], 3, 182⟩) ?_ ?_
              · refine evC_if (q := decide ((↑(List.length l) : Int) > 0)) (by kernel_rfl) (fun hc => ?_) (fun hc => ?_)
                · have h0 : 0 < l.length := by have := of_decide_eq_true hc; omega
                  clear hc
                  refine evC_go (dec := []) (ks := [(0, 2), (0, 3), (0, 7), (0, 9), (0, 13), (0, 16), (0, 17), (0, 19), (0, 20), (0, 137), (1, 0), (1, 1), (1, 2), (2, 0)]) (ps := [(0 : Int) ≤ (0 : Int), (0 : Int) < (↑(List.length l) : Int), (2 : Nat) = (2 : Nat), (0 : Int) ≤ (0 : Int), (0 : Int) < (↑(List.length l) : Int), (2 : Nat) = (2 : Nat), ((0 : Nat) < (1 : Nat) ∧ (0 : Nat) < (2 : Nat) ∧ (1 : Nat) ≠ (2 : Nat)) ∧ spF l = spF (spL (List.length l) (spF l)) ∧ qmap (sqN l (List.length l)) = qmap (sqN (spL (List.length l) (spF l)) (List.length (spL (List.length l) (spF l)))) ∧ InL (spL (List.length l) (spF l))]) (s' := ⟨[(0, 2, Cont.cell (AV.bool false)), (0, 3, Cont.cell (AV.rs 2 (List.length l) false (spF l))), (0, 7, Cont.cell (AV.ptr 1 0)), (0, 9, Cont.cell (AV.rs 1 (List.length A) false (lst A))), (0, 13, Cont.cell (AV.int IntKind.i64 (↑(List.length A) : Int))), (0, 16, Cont.cell (AV.int IntKind.i64 (nstE l x y))), (0, 17, Cont.cell (AV.bool true)), (0, 19, Cont.cell (AV.rs 1 (List.length (witO (spL (List.length l) (spF l)) (Prod.fst (List.getD l (Int.toNat 0) (0, 0))) (Prod.snd (List.getD l (Int.toNat 0) (0, 0))) 0)) false (lst (witO (spL (List.length l) (spF l)) (Prod.fst (List.getD l (Int.toNat 0) (0, 0))) (Prod.snd (List.getD l (Int.toNat 0) (0, 0))) 0)))), (0, 20, Cont.cell (AV.int IntKind.i64 (errF (okW (Prod.fst (List.getD l (Int.toNat 0) (0, 0))) (Prod.snd (List.getD l (Int.toNat 0) (0, 0))) 0)))), (0, 137, Cont.cell (AV.bool (decide ((↑(List.length l) : Int) > 0)))), (1, 0, Cont.cell (AV.rs 2 (List.length l) false (spF l))), (1, 1, Cont.cell (AV.mp 2)), (1, 2, Cont.top), (2, 0, Cont.map 2 (qmap (sqN l (List.length l))))], 707, 182⟩) (by kernel_rfl) (by kernel_rfl) ?_ ?_
                  · exact ⟨by decide, by omega, rfl, by decide, by omega, rfl, ⟨by decide, by decide, by decide⟩, by rw [idx_eta], by rw [idx_eta], by rw [idx_eta]; exact hl⟩
                  rw [idx_eta]
                  obtain ⟨hs1, hs2⟩ := hl.get h0
                  have hoc : okW (l.getD 0 (0, 0)).1 (l.getD 0 (0, 0)).2 0 = true := by
                    unfold okW; rw [inb_iff.2 hs1, inb_iff.2 hs2]; rfl
                  have hvc : witO l (l.getD 0 (0, 0)).1 (l.getD 0 (0, 0)).2 0 = wit l (l.getD 0 (0, 0)).1 (l.getD 0 (0, 0)).2 0 := by unfold witO; rw [hoc]; rfl
                  rw [Int.toNat_zero, hvc, hoc]
                  obtain ⟨hz1, hz2⟩ := wit_self h0
                  generalize wit l (l.getD 0 (0, 0)).1 (l.getD 0 (0, 0)).2 0 = C at *
                  refine evC_go (dec := []) (ks := [(0, 2), (0, 3), (0, 7), (0, 9), (0, 13), (0, 16), (0, 17), (0, 137), (0, 163), (1, 0), (1, 1), (1, 2), (2, 0)]) (ps := [List.all [!bif errF true != (0 : Int) then true else decide ((↑(List.length C) : Int) < (1 : Int))] id = true → (0 : Int) ≤ (0 : Int), List.all [!bif errF true != (0 : Int) then true else decide ((↑(List.length C) : Int) < (1 : Int))] id = true → (0 : Int) < (↑(List.length C) : Int), List.all [!bif errF true != (0 : Int) then true else decide ((↑(List.length C) : Int) < (1 : Int))] id = true → (1 : Nat) = (1 : Nat)]) (s' := ⟨[(0, 2, Cont.cell (AV.bool false)), (0, 3, Cont.cell (AV.rs 2 (List.length l) false (spF l))), (0, 7, Cont.cell (AV.ptr 1 0)), (0, 9, Cont.cell (AV.rs 1 (List.length A) false (lst A))), (0, 13, Cont.cell (AV.int IntKind.i64 (↑(List.length A) : Int))), (0, 16, Cont.cell (AV.int IntKind.i64 (nstE l x y))), (0, 17, Cont.cell (AV.bool true)), (0, 137, Cont.cell (AV.bool (decide ((↑(List.length l) : Int) > 0)))), (0, 163, Cont.cell (AV.bool (bif bif errF true != 0 then true else decide ((↑(List.length C) : Int) < 1) then true else List.getD C (Int.toNat 0) 0 != 0))), (1, 0, Cont.cell (AV.rs 2 (List.length l) false (spF l))), (1, 1, Cont.cell (AV.mp 2)), (1, 2, Cont.top), (2, 0, Cont.map 2 (qmap (sqN l (List.length l))))], 1123, 182⟩) (by kernel_rfl) (by kernel_rfl) ?_ ?_
                  · exact ⟨fun _ => by decide, fun _ => by omega, fun _ => rfl⟩
                  rw [Int.toNat_zero, hz1, show (errF true != 0) = false from rfl, show decide (((C.length : Nat) : Int) < 1) = false from decide_eq_false (by omega), cond_false, cond_false, show ((0 : Int) != 0) = false from rfl]
                  refine evC_if (q := false) (by kernel_rfl) (fun hc => ?_) (fun hc => ?_)
                  · cases hc
                  refine evC_skip ?_
                  refine cut_normal (()) (wk_go [1, 2] rfl (by decide) rfl rfl ⟨⟨_, rfl, rfl⟩, ⟨_, rfl, rfl⟩, ⟨_, rfl, rfl⟩, ⟨_, rfl, rfl⟩, ⟨_, rfl, rfl⟩, ⟨_, rfl, rfl⟩, ⟨_, rfl, rfl⟩, ⟨_, rfl, rfl⟩, ⟨_, rfl, rfl⟩, ⟨_, rfl, rfl⟩, ⟨_, rfl, trivial⟩, ⟨_, rfl, Go.Eng.S12.cw_qmap _⟩, trivial⟩)
                · refine evC_skip ?_
                  refine cut_normal (()) (wk_go [1, 2] rfl (by decide) rfl rfl ⟨⟨_, rfl, rfl⟩, ⟨_, rfl, rfl⟩, ⟨_, rfl, rfl⟩, ⟨_, rfl, rfl⟩, ⟨_, rfl, rfl⟩, ⟨_, rfl, rfl⟩, ⟨_, rfl, rfl⟩, ⟨_, rfl, rfl⟩, ⟨_, rfl, rfl⟩, ⟨_, rfl, rfl⟩, ⟨_, rfl, trivial⟩, ⟨_, rfl, Go.Eng.S12.cw_qmap _⟩, trivial⟩)
              intro _
              refine evC_go0 (dec := []) (ks := [(0, 2)]) (s' := ⟨[(0, 2, Cont.cell (AV.bool (bif bif bif (↑(List.length A) : Int) == (↑(List.length A) : Int) then true else false then (nstE l x y == 0) == decide ((↑(List.length l) : Int) > 0) else false then true else false)))], 611, 182⟩) (by kernel_rfl) (by kernel_rfl) ?_
              have hd : (decide (0 < l.length) == decide ((l.length : Int) > 0)) = true := by
                by_cases h : 0 < l.length
                · rw [decide_eq_true h, decide_eq_true (by omega)]; rfl
                · rw [decide_eq_false h, decide_eq_false (by omega)]; rfl
              rw [hne, hd, beq_self_eq_true]
              refine evC_ret ?_
              refine post_ret ?_
              refine ends_flat (vs := [AV.bool true]) (Nat.zero_lt_succ _) (by kernel_rfl) (flat_of _ (by kernel_rfl)) rfl ?_
              rfl
  · cases e
def sNearMore : Spec := fun args _ _ => match args with
  | [.agg [.rs 2 n false f, .int .i64 x, .int .i64 y, .int .i64 r]] => some ⟨[(∀ i, i < n → f i = c2 f i) ∧ n ≤ maxLen], .bool true, [], []⟩
  | _ => none
/-- NearMore answers true, whatever it is asked. -/
theorem nearMore_ok : SpecOK Try.prog 6 sNearMore := by
  refine spec_two nearMoreB_ok nearMoreG_ok (fun args hr nb out e x hx => ?_) fun args hr nb out e hs => ?_
  · unfold sNearMore at e
    split at e
    · injection e with e; subst e; cases hx
    · cases e
  · unfold sNearMore at e
    split at e
    · rename_i n f x y r
      injection e with e; subst e
      have h1 := hs _ List.mem_cons_self
      have h1 : (∀ i, i < n → f i = spF (spL n f) i) ∧ n ≤ maxLen := ⟨c2_sp h1.1, h1.2⟩
      cases h : mayB ((spL n f).take (fewN n)) with
      | false => exact ⟨[_, _], fun q hq => (by
          rcases List.mem_cons.1 hq with rfl | hq
          · exact h1
          · rw [List.mem_singleton.1 hq]; exact h), .inl rfl⟩
      | true => exact ⟨[_, _], fun q hq => (by
          rcases List.mem_cons.1 hq with rfl | hq
          · exact h1
          · rw [List.mem_singleton.1 hq]; exact h), .inr rfl⟩
    · cases e
end Go.Eng.S12
