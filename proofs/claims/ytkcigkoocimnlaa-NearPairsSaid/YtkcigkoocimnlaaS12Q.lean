/- Seat 12: the law NearPairs, walked. -/
import Derived.Test.YtkcigkoocimnlaaEngX
import Derived.Test.YtkcigkoocimnlaaS12M
set_option linter.unusedSimpArgs false
set_option linter.unusedVariables false
namespace Go.Eng.S12
open Go.Proofs Go.IntWalk
set_option maxRecDepth 10000

/-- Who is paired with the i-th, of the first j. -/
def pj (l : List Sp) (r : Int) (i j : Nat) : List Sp := prI l r i (witN l (l.getD i (0, 0)).1 (l.getD i (0, 0)).2 r j)
theorem pj_succ (l : List Sp) (r : Int) (i j : Nat) : pj l r i (j + 1) = pj l r i j ++ (bif near l (l.getD i (0, 0)).1 (l.getD i (0, 0)).2 r j && decide (i < j) then [((i : Int), (j : Int))] else []) := by
  unfold pj
  rw [witN_succ]
  cases h : near l (l.getD i (0, 0)).1 (l.getD i (0, 0)).2 r j with
  | true =>
    simp only [cond_true, Bool.true_and]
    rw [prI_snoc]
    congr 1
    by_cases h2 : i < j
    · rw [decide_eq_true h2, decide_eq_true (show (j : Int) > (i : Int) by omega)]
    · rw [decide_eq_false h2, decide_eq_false (show ¬ (j : Int) > (i : Int) by omega)]
  | false => simp
theorem pj_zero (l : List Sp) (r : Int) (i : Nat) : ∀ j, j ≤ i + 1 → pj l r i j = []
  | 0, _ => rfl
  | j + 1, h => by
    rw [pj_succ, pj_zero l r i j (by omega), decide_eq_false (by omega : ¬ i < j), Bool.and_false]
    rfl
theorem pj_pre (l : List Sp) (r : Int) (i : Nat) {j m : Nat} (h : j ≤ m) : pj l r i j <+: pj l r i m := by
  induction m with
  | zero => rw [Nat.le_zero.1 h]; exact List.prefix_rfl
  | succ m ih =>
    rcases Nat.lt_or_ge j (m + 1) with h1 | h1
    · rw [pj_succ]; exact (ih (by omega)).trans (List.prefix_append _ _)
    · rw [show j = m + 1 by omega]; exact List.prefix_rfl
theorem prN_pre (l : List Sp) (r : Int) {i m : Nat} (h : i ≤ m) : prN l r i <+: prN l r m := by
  induction m with
  | zero => rw [Nat.le_zero.1 h]; exact List.prefix_rfl
  | succ m ih =>
    rcases Nat.lt_or_ge i (m + 1) with h1 | h1
    · show _ <+: prN l r m ++ _
      exact (ih (by omega)).trans (List.prefix_append _ _)
    · rw [show i = m + 1 by omega]; exact List.prefix_rfl
theorem prN_pj (l : List Sp) (r : Int) (i : Nat) : prN l r (i + 1) = prN l r i ++ pj l r i l.length := rfl
theorem pj_at {l : List Sp} {r : Int} {i j : Nat} (hi : i < l.length) (hj : j < l.length) (hij : i < j) (hn : near l (l.getD i (0, 0)).1 (l.getD i (0, 0)).2 r j = true) :
    (prN l r i ++ pj l r i j).length < (prN l r l.length).length ∧ (prN l r l.length).getD (prN l r i ++ pj l r i j).length (0, 0) = ((i : Int), (j : Int)) := by
  have h1 : pj l r i (j + 1) = pj l r i j ++ [((i : Int), (j : Int))] := by rw [pj_succ, hn, decide_eq_true hij]; rfl
  have h2 : (prN l r i ++ pj l r i j) ++ [((i : Int), (j : Int))] <+: prN l r l.length := by
    have h3 := prN_pre l r (show i + 1 ≤ l.length from hi)
    rw [prN_pj] at h3
    have h4 := pj_pre l r i (show j + 1 ≤ l.length from hj)
    rw [h1] at h4
    obtain ⟨t4, e4⟩ := h4
    obtain ⟨t3, e3⟩ := h3
    refine ⟨t4 ++ t3, ?_⟩
    rw [← e3, ← e4]
    simp [List.append_assoc]
  obtain ⟨t, e⟩ := h2
  rw [← e]
  refine ⟨by simp, ?_⟩
  rw [List.getD_eq_getElem?_getD, List.append_assoc, List.getElem?_append_right (Nat.le_refl _), Nat.sub_self]
  rfl
theorem farI_symm (s t : Sp) : farI s t.1 t.2 = farI t s.1 s.2 := by
  unfold farI
  rw [show s.1 - t.1 = -(t.1 - s.1) by omega, show s.2 - t.2 = -(t.2 - s.2) by omega, Int.neg_mul_neg, Int.neg_mul_neg]
theorem pj_len (l : List Sp) (r : Int) {i : Nat} (hi : i < l.length) {j : Nat} (hj : j ≤ l.length) : (prN l r i ++ pj l r i j).length ≤ (prN l r l.length).length := by
  have h3 := (prN_pre l r (show i + 1 ≤ l.length from hi)).length_le
  rw [prN_pj] at h3
  have h4 := (pj_pre l r i hj).length_le
  simp only [List.length_append] at *
  omega
theorem cutTo_wk {ι : Type} {B : Nat} {S : ι → St} {Q : Exit → St → Prop} {s s' : St} (h : Wk B s s') (k : CutTo B S Q .normal s') : CutTo B S Q .normal s := k.elim fun i hi => ⟨i, h.trans hi⟩
def sixN (n : Nat) : Nat := if 60 < n then 60 else n
theorem sixN_le (n : Nat) : sixN n ≤ n ∧ sixN n ≤ 60 := by unfold sixN; split <;> omega
theorem six_len {n : Nat} {f : Nat → AV} : ((spL n f).take (sixN n)).length = sixN n := by
  rw [List.length_take, spL_len]; have := sixN_le n; omega
def sNearPairsB : Spec := fun args _ _ => match args with
  | [.rs 2 n false f, .int .i64 r] => some ⟨[(∀ i, i < n → f i = spF (spL n f) i) ∧ n ≤ maxLen, mayB ((spL n f).take (sixN n)) = false], .bool true, [], []⟩
  | _ => none
def sNearPairsG : Spec := fun args _ _ => match args with
  | [.rs 2 n false f, .int .i64 r] => some ⟨[(∀ i, i < n → f i = spF (spL n f) i) ∧ n ≤ maxLen, mayB ((spL n f).take (sixN n)) = true], .bool true, [], []⟩
  | _ => none
theorem nearPairsB_ok : SpecOK Try.prog 5 sNearPairsB := by
  refine spec_own (by kernel_rfl) T_ok (sget_cons madeB_ok (sget_cons awake_ok sget_nil)) Try.func5 rfl rfl fun args hr nb out e => ?_
  unfold sNearPairsB at e
  split at e
  · rename_i n f r
    injection e with e; subst e
    refine ⟨(fun _ h => nomatch h), true, [.rs 2 n false (spF (spL n f)), .int .i64 r], rfl, fun hs => ?_⟩
    obtain ⟨h1, h2⟩ := hs _ List.mem_cons_self
    have h3 := hs _ (List.mem_cons_of_mem _ List.mem_cons_self)
    refine ⟨.cons _ _ _ _ (.rs _ _ _ _ _ _ fun i hi => ⟨h1 i hi, (spF_flat _ i).has⟩) (.cons _ _ _ _ (.same _ _ (.int _ _)) .nil), ?_⟩
    clear hs h1
    have hq := @six_len n f
    have hq2 := sixN_le n
    have hvi : VI (.rs 2 (sixN n) false (spF (spL n f))) (sps ((spL n f).take (sixN n))) := by
      unfold sps
      rw [hq]
      exact vi_rs fun i hi => (spF_take _ _ hi).symm
    refine evC_go0 (dec := []) (ks := [(0, 0), (0, 1), (0, 4)]) (s' := ⟨[(0, 0, Cont.cell (AV.rs 2 n false (spF (spL n f)))), (0, 1, Cont.cell (AV.int IntKind.i64 r)), (0, 4, Cont.cell (AV.bool false))], 33, 107⟩) (by kernel_rfl) (by kernel_rfl) ?_
    refine evC_seq ?_
    refine evC_go0 (dec := []) (ks := [(0, 0), (0, 1), (0, 4), (0, 14)]) (s' := ⟨[(0, 0, Cont.cell (AV.rs 2 n false (spF (spL n f)))), (0, 1, Cont.cell (AV.int IntKind.i64 r)), (0, 4, Cont.cell (AV.bool false)), (0, 14, Cont.cell (AV.bool (decide ((↑n : Int) > 60))))], 129, 107⟩) (by kernel_rfl) (by kernel_rfl) ?_
    refine evC_cutThen (ι := Unit) (fun _ => ⟨[(0, 0, .cell (sps ((spL n f).take (sixN n)))), (0, 1, Cont.cell (AV.int IntKind.i64 r)), (0, 4, Cont.cell (AV.bool false)), (0, 14, Cont.cell (AV.bool (decide ((↑n : Int) > 60))))], 1, 107⟩) ?_ ?_
    · refine evC_if (q := decide ((↑n : Int) > 60)) (by kernel_rfl) (fun hc => ?_) (fun hc => ?_)
      · have hn : 60 < n := by have := of_decide_eq_true hc; omega
        have e0 : sixN n = 60 := by simp [sixN, hn]
        rw [e0] at hvi ⊢
        refine evC_goL (dec := []) (ks := [(0, 0), (0, 1), (0, 4), (0, 14)]) (ps := [(0 : Int) ≤ (0 : Int), (0 : Int) ≤ (60 : Int), (60 : Int) ≤ (↑n : Int), (60 : Int) = (60 : Int), (2 : Nat) = (2 : Nat), false = true → true = true]) (s' := ⟨[(0, 0, Cont.cell (AV.rs 2 60 false fun i => spF (spL n f) (Int.toNat 0 + i))), (0, 1, Cont.cell (AV.int IntKind.i64 r)), (0, 4, Cont.cell (AV.bool false)), (0, 14, Cont.cell (AV.bool (decide ((↑n : Int) > 60))))], 225, 107⟩) (by kernel_rfl) (by kernel_rfl) ?_ ?_
        · exact ⟨by omega, by omega, by omega, rfl, rfl, fun h => nomatch h⟩
        refine cutTo_wk (.imp 0 0 _ (sps (List.take 60 (spL n f))) rfl ?_) ?_
        · have : (fun i => spF (spL n f) ((0 : Int).toNat + i)) = spF (spL n f) := by funext i; rw [Int.toNat_zero, Nat.zero_add]
          have h3 : ((60 : Int).toNat - (0 : Int).toNat) = 60 := rfl
          show VI (.rs 2 60 false fun i => spF (spL n f) ((0 : Int).toNat + i)) _
          rw [this]
          exact hvi
        refine cut_normal (()) (wk_go [] rfl (by decide) rfl rfl ⟨⟨_, rfl, rfl⟩, ⟨_, rfl, rfl⟩, ⟨_, rfl, rfl⟩, ⟨_, rfl, rfl⟩, trivial⟩)
      · have hn : ¬ 60 < n := by have := of_decide_eq_false hc; omega
        have e0 : sixN n = n := by simp [sixN, hn]
        rw [e0] at hvi ⊢
        refine evC_wk _ (.imp 0 0 _ (sps (List.take n (spL n f))) rfl ?_) ?_
        · exact hvi
        refine evC_skip ?_
        dsimp only
        refine cut_normal (()) (wk_go [] rfl (by decide) rfl rfl ⟨⟨_, rfl, rfl⟩, ⟨_, rfl, rfl⟩, ⟨_, rfl, rfl⟩, ⟨_, rfl, rfl⟩, trivial⟩)
    intro _
    generalize List.take (sixN n) (spL n f) = l at *
    have hl : l.length ≤ 258 := by omega
    unfold sps
    refine evC_go (dec := []) (ks := [(0, 0), (0, 1), (0, 4), (0, 5), (0, 6)]) (ps := [(∀ (i : Nat), i < List.length l → spF l i = spF (spL (List.length l) (spF l)) i) ∧ List.length l ≤ (258 : Nat), mayB (spL (List.length l) (spF l)) = false]) (s' := ⟨[(0, 0, Cont.cell (AV.rs 2 (List.length l) false (spF l))), (0, 1, Cont.cell (AV.int IntKind.i64 r)), (0, 4, Cont.cell (AV.bool false)), (0, 5, Cont.cell AV.nilp), (0, 6, Cont.cell (AV.bool true))], 225, 107⟩) (by kernel_rfl) (by kernel_rfl) ?_ ?_
    · exact ⟨⟨fun i hi => by rw [spL_spF], hl⟩, by rw [spL_spF]; exact h3⟩
    refine evC_seq ?_
    refine evC_go0 (dec := []) (ks := [(0, 0), (0, 1), (0, 4), (0, 5), (0, 6), (0, 23)]) (s' := ⟨[(0, 0, Cont.cell (AV.rs 2 (List.length l) false (spF l))), (0, 1, Cont.cell (AV.int IntKind.i64 r)), (0, 4, Cont.cell (AV.bool false)), (0, 5, Cont.cell AV.nilp), (0, 6, Cont.cell (AV.bool true)), (0, 23, Cont.cell (AV.bool true))], 289, 107⟩) (by kernel_rfl) (by kernel_rfl) ?_
    refine evC_if (q := true) (by kernel_rfl) (fun hc => ?_) (fun hc => ?_)
    rotate_left
    · cases hc
    refine evC_go0 (dec := []) (ks := [(0, 0), (0, 1), (0, 4), (0, 5)]) (s' := ⟨[(0, 0, Cont.cell (AV.rs 2 (List.length l) false (spF l))), (0, 1, Cont.cell (AV.int IntKind.i64 r)), (0, 4, Cont.cell (AV.bool true)), (0, 5, Cont.cell AV.nilp)], 449, 107⟩) (by kernel_rfl) (by kernel_rfl) ?_
    refine evC_ret ?_
    refine then_ret ?_
    refine post_ret ?_
    refine ends_flat (vs := [AV.bool true]) (Nat.zero_lt_succ _) (by kernel_rfl) (flat_of _ (by kernel_rfl)) rfl ?_
    rfl
  · cases e
theorem nearPairsG_ok : SpecOK Try.prog 5 sNearPairsG := by
  refine spec_own (by kernel_rfl) T_ok (sget_cons madeG_ok (sget_cons awake_ok (sget_cons pairs_ok (sget_cons in_ok (sget_cons refFar_ok sget_nil))))) Try.func5 rfl rfl fun args hr nb out e => ?_
  unfold sNearPairsG at e
  split at e
  · rename_i n f r
    injection e with e; subst e
    refine ⟨(fun _ h => nomatch h), true, [.rs 2 n false (spF (spL n f)), .int .i64 r], rfl, fun hs => ?_⟩
    obtain ⟨h1, h2⟩ := hs _ List.mem_cons_self
    have h3 := hs _ (List.mem_cons_of_mem _ List.mem_cons_self)
    refine ⟨.cons _ _ _ _ (.rs _ _ _ _ _ _ fun i hi => ⟨h1 i hi, (spF_flat _ i).has⟩) (.cons _ _ _ _ (.same _ _ (.int _ _)) .nil), ?_⟩
    clear hs h1
    have hq := @six_len n f
    have hq2 := sixN_le n
    have hvi : VI (.rs 2 (sixN n) false (spF (spL n f))) (sps ((spL n f).take (sixN n))) := by
      unfold sps
      rw [hq]
      exact vi_rs fun i hi => (spF_take _ _ hi).symm
    refine evC_go0 (dec := []) (ks := [(0, 0), (0, 1), (0, 4)]) (s' := ⟨[(0, 0, Cont.cell (AV.rs 2 n false (spF (spL n f)))), (0, 1, Cont.cell (AV.int IntKind.i64 r)), (0, 4, Cont.cell (AV.bool false))], 33, 107⟩) (by kernel_rfl) (by kernel_rfl) ?_
    refine evC_seq ?_
    refine evC_go0 (dec := []) (ks := [(0, 0), (0, 1), (0, 4), (0, 14)]) (s' := ⟨[(0, 0, Cont.cell (AV.rs 2 n false (spF (spL n f)))), (0, 1, Cont.cell (AV.int IntKind.i64 r)), (0, 4, Cont.cell (AV.bool false)), (0, 14, Cont.cell (AV.bool (decide ((↑n : Int) > 60))))], 129, 107⟩) (by kernel_rfl) (by kernel_rfl) ?_
    refine evC_cutThen (ι := Unit) (fun _ => ⟨[(0, 0, .cell (sps ((spL n f).take (sixN n)))), (0, 1, Cont.cell (AV.int IntKind.i64 r)), (0, 4, Cont.cell (AV.bool false)), (0, 14, Cont.cell (AV.bool (decide ((↑n : Int) > 60))))], 1, 107⟩) ?_ ?_
    · refine evC_if (q := decide ((↑n : Int) > 60)) (by kernel_rfl) (fun hc => ?_) (fun hc => ?_)
      · have hn : 60 < n := by have := of_decide_eq_true hc; omega
        have e0 : sixN n = 60 := by simp [sixN, hn]
        rw [e0] at hvi ⊢
        refine evC_goL (dec := []) (ks := [(0, 0), (0, 1), (0, 4), (0, 14)]) (ps := [(0 : Int) ≤ (0 : Int), (0 : Int) ≤ (60 : Int), (60 : Int) ≤ (↑n : Int), (60 : Int) = (60 : Int), (2 : Nat) = (2 : Nat), false = true → true = true]) (s' := ⟨[(0, 0, Cont.cell (AV.rs 2 60 false fun i => spF (spL n f) (Int.toNat 0 + i))), (0, 1, Cont.cell (AV.int IntKind.i64 r)), (0, 4, Cont.cell (AV.bool false)), (0, 14, Cont.cell (AV.bool (decide ((↑n : Int) > 60))))], 225, 107⟩) (by kernel_rfl) (by kernel_rfl) ?_ ?_
        · exact ⟨by omega, by omega, by omega, rfl, rfl, fun h => nomatch h⟩
        refine cutTo_wk (.imp 0 0 _ (sps (List.take 60 (spL n f))) rfl ?_) ?_
        · have : (fun i => spF (spL n f) ((0 : Int).toNat + i)) = spF (spL n f) := by funext i; rw [Int.toNat_zero, Nat.zero_add]
          have h3 : ((60 : Int).toNat - (0 : Int).toNat) = 60 := rfl
          show VI (.rs 2 60 false fun i => spF (spL n f) ((0 : Int).toNat + i)) _
          rw [this]
          exact hvi
        refine cut_normal (()) (wk_go [] rfl (by decide) rfl rfl ⟨⟨_, rfl, rfl⟩, ⟨_, rfl, rfl⟩, ⟨_, rfl, rfl⟩, ⟨_, rfl, rfl⟩, trivial⟩)
      · have hn : ¬ 60 < n := by have := of_decide_eq_false hc; omega
        have e0 : sixN n = n := by simp [sixN, hn]
        rw [e0] at hvi ⊢
        refine evC_wk _ (.imp 0 0 _ (sps (List.take n (spL n f))) rfl ?_) ?_
        · exact hvi
        refine evC_skip ?_
        dsimp only
        refine cut_normal (()) (wk_go [] rfl (by decide) rfl rfl ⟨⟨_, rfl, rfl⟩, ⟨_, rfl, rfl⟩, ⟨_, rfl, rfl⟩, ⟨_, rfl, rfl⟩, trivial⟩)
    intro _
    generalize List.take (sixN n) (spL n f) = l at *
    have hl : InL l := mayB_iff.1 h3
    have hl60 : l.length ≤ 60 := by omega
    unfold sps
    refine evC_go (dec := []) (ks := [(0, 0), (0, 1), (0, 4), (0, 5), (0, 6), (33, 0), (33, 1), (33, 2), (34, 0)]) (ps := [(∀ (i : Nat), i < List.length l → spF l i = spF (spL (List.length l) (spF l)) i) ∧ List.length l ≤ (258 : Nat), mayB (spL (List.length l) (spF l)) = true]) (s' := ⟨[(0, 0, Cont.cell (AV.rs 2 (List.length l) false (spF l))), (0, 1, Cont.cell (AV.int IntKind.i64 r)), (0, 4, Cont.cell (AV.bool false)), (0, 5, Cont.cell (AV.ptr 33 0)), (0, 6, Cont.cell (AV.bool true)), (33, 0, Cont.cell (AV.rs 2 (List.length (spL (List.length l) (spF l))) false (spF (spL (List.length l) (spF l))))), (33, 1, Cont.cell (AV.mp 34)), (33, 2, Cont.top), (34, 0, Cont.map 2 (qmap (sqN (spL (List.length l) (spF l)) (List.length (spL (List.length l) (spF l))))))], 225, 107⟩) (by kernel_rfl) (by kernel_rfl) ?_ ?_
    · exact ⟨⟨fun i hi => by rw [spL_spF], by omega⟩, by rw [spL_spF]; exact h3⟩
    rw [spL_spF]
    refine evC_seq ?_
    refine evC_go0 (dec := []) (ks := [(0, 0), (0, 1), (0, 4), (0, 5), (0, 6), (0, 23), (33, 0), (33, 1), (33, 2), (34, 0)]) (s' := ⟨[(0, 0, Cont.cell (AV.rs 2 (List.length l) false (spF l))), (0, 1, Cont.cell (AV.int IntKind.i64 r)), (0, 4, Cont.cell (AV.bool false)), (0, 5, Cont.cell (AV.ptr 33 0)), (0, 6, Cont.cell (AV.bool true)), (0, 23, Cont.cell (AV.bool false)), (33, 0, Cont.cell (AV.rs 2 (List.length l) false (spF l))), (33, 1, Cont.cell (AV.mp 34)), (33, 2, Cont.top), (34, 0, Cont.map 2 (qmap (sqN l (List.length l))))], 289, 107⟩) (by kernel_rfl) (by kernel_rfl) ?_
    refine evC_if (q := false) (by kernel_rfl) (fun hc => ?_) (fun hc => ?_)
    · cases hc
    refine evC_skip ?_
    refine then_normal ?_
    refine evC_go (dec := []) (ks := [(0, 0), (0, 1), (0, 4), (0, 7), (0, 8)]) (ps := [((0 : Nat) < (33 : Nat) ∧ (0 : Nat) < (34 : Nat) ∧ (33 : Nat) ≠ (34 : Nat)) ∧ spF l = spF (spL (List.length l) (spF l)) ∧ qmap (sqN l (List.length l)) = qmap (sqN (spL (List.length l) (spF l)) (List.length (spL (List.length l) (spF l)))) ∧ InL (spL (List.length l) (spF l)), List.length (spL (List.length l) (spF l)) ≤ (100 : Nat)]) (s' := ⟨[(0, 0, Cont.cell (AV.rs 2 (List.length l) false (spF l))), (0, 1, Cont.cell (AV.int IntKind.i64 r)), (0, 4, Cont.cell (AV.bool false)), (0, 7, Cont.cell (AV.rs 2 (List.length (prO (spL (List.length l) (spF l)) r)) false (spF (prO (spL (List.length l) (spF l)) r)))), (0, 8, Cont.cell (AV.int IntKind.i64 (errF (inb r))))], 545, 107⟩) (by kernel_rfl) (by kernel_rfl) ?_ ?_
    · exact ⟨⟨⟨by decide, by decide, by decide⟩, by rw [idx_eta], by rw [idx_eta], by rw [idx_eta]; exact hl⟩, by rw [idx_eta]; exact Nat.le_trans hl60 (by decide)⟩
    rw [idx_eta]
    refine evC_seq ?_
    refine evC_go0 (dec := []) (ks := [(0, 0), (0, 1), (0, 4), (0, 7), (0, 8), (0, 36)]) (s' := ⟨[(0, 0, Cont.cell (AV.rs 2 (List.length l) false (spF l))), (0, 1, Cont.cell (AV.int IntKind.i64 r)), (0, 4, Cont.cell (AV.bool false)), (0, 7, Cont.cell (AV.rs 2 (List.length (prO l r)) false (spF (prO l r)))), (0, 8, Cont.cell (AV.int IntKind.i64 (errF (inb r)))), (0, 36, Cont.cell (AV.bool !inb r))], 641, 107⟩) (by kernel_rfl) (by kernel_rfl) ?_
    refine evC_if (q := !inb r) (by kernel_rfl) (fun hc => ?_) (fun hc => ?_)
    · have hr1 : inb r = false := by simpa using hc
      have hv : prO l r = [] ∧ errF (inb r) = 1 := by unfold prO; rw [hr1]; exact ⟨rfl, rfl⟩
      rw [hv.1, hv.2]
      refine evC_go0 (dec := []) (ks := [(0, 0), (0, 1), (0, 4), (0, 7), (0, 8)]) (s' := ⟨[(0, 0, Cont.cell (AV.rs 2 (List.length l) false (spF l))), (0, 1, Cont.cell (AV.int IntKind.i64 r)), (0, 4, Cont.cell (AV.bool true)), (0, 7, Cont.cell (AV.rs 2 0 false (spF []))), (0, 8, Cont.cell (AV.int IntKind.i64 1))], 993, 107⟩) (by kernel_rfl) (by kernel_rfl) ?_
      refine evC_ret ?_
      refine then_ret ?_
      refine post_ret ?_
      refine ends_flat (vs := [AV.bool true]) (Nat.zero_lt_succ _) (by kernel_rfl) (flat_of _ (by kernel_rfl)) rfl ?_
      rfl
    · have hr1 : inb r = true := by simpa using hc
      have hr2 := inb_iff.1 hr1
      have hv : prO l r = prN l r l.length ∧ errF (inb r) = 0 := by unfold prO; rw [hr1]; exact ⟨rfl, rfl⟩
      rw [hv.1, hv.2]
      clear hc
      have hW : (prN l r l.length).length ≤ 3600 := Nat.le_trans (prN_len l r _) (Nat.mul_le_mul hl60 hl60)
      refine evC_skip ?_
      refine then_normal ?_
      refine evC_go0 (dec := []) (ks := [(0, 0), (0, 1), (0, 4), (0, 7), (0, 8), (0, 9)]) (s' := ⟨[(0, 0, Cont.cell (AV.rs 2 (List.length l) false (spF l))), (0, 1, Cont.cell (AV.int IntKind.i64 r)), (0, 4, Cont.cell (AV.bool false)), (0, 7, Cont.cell (AV.rs 2 (List.length (prN l r (List.length l))) false (spF (prN l r (List.length l))))), (0, 8, Cont.cell (AV.int IntKind.i64 0)), (0, 9, Cont.cell (AV.int IntKind.i64 0))], 673, 107⟩) (by kernel_rfl) (by kernel_rfl) ?_
      refine evC_seq ?_
      refine evC_go0 (dec := []) (ks := [(0, 0), (0, 1), (0, 4), (0, 7), (0, 8), (0, 9), (0, 10)]) (s' := ⟨[(0, 0, Cont.cell (AV.rs 2 (List.length l) false (spF l))), (0, 1, Cont.cell (AV.int IntKind.i64 r)), (0, 4, Cont.cell (AV.bool false)), (0, 7, Cont.cell (AV.rs 2 (List.length (prN l r (List.length l))) false (spF (prN l r (List.length l))))), (0, 8, Cont.cell (AV.int IntKind.i64 0)), (0, 9, Cont.cell (AV.int IntKind.i64 0)), (0, 10, Cont.cell (AV.int IntKind.i64 0))], 705, 107⟩) (by kernel_rfl) (by kernel_rfl) ?_
      refine evC_block ?_
      refine evC_loop (ι := { i : Nat // i ≤ l.length }) (fun i => ⟨[(0, 0, Cont.cell (AV.rs 2 (List.length l) false (spF l))), (0, 1, Cont.cell (AV.int IntKind.i64 r)), (0, 4, Cont.cell (AV.bool false)), (0, 7, Cont.cell (AV.rs 2 (List.length (prN l r (List.length l))) false (spF (prN l r (List.length l))))), (0, 8, Cont.cell (AV.int IntKind.i64 0)), (0, 9, .cell (.int .i64 ((prN l r i.1).length : Nat))), (0, 10, .cell (.int .i64 (i.1 : Nat)))], 1, 107⟩) (fun i => l.length - i.1) ⟨0, Nat.zero_le _⟩ (wk_go [] rfl (by decide) rfl rfl ⟨⟨_, rfl, rfl⟩, ⟨_, rfl, rfl⟩, ⟨_, rfl, rfl⟩, ⟨_, rfl, rfl⟩, ⟨_, rfl, rfl⟩, ⟨_, rfl, rfl⟩, ⟨_, rfl, rfl⟩, trivial⟩) ?_
      rintro ⟨i, hi⟩
      have hi : i ≤ l.length := hi
      refine evC_seq ?_
      refine evC_go0 (dec := []) (ks := [(0, 0), (0, 1), (0, 4), (0, 7), (0, 8), (0, 9), (0, 10), (0, 50)]) (s' := ⟨[(0, 0, Cont.cell (AV.rs 2 (List.length l) false (spF l))), (0, 1, Cont.cell (AV.int IntKind.i64 r)), (0, 4, Cont.cell (AV.bool false)), (0, 7, Cont.cell (AV.rs 2 (List.length (prN l r (List.length l))) false (spF (prN l r (List.length l))))), (0, 8, Cont.cell (AV.int IntKind.i64 0)), (0, 9, Cont.cell (AV.int IntKind.i64 (↑(List.length (prN l r i)) : Int))), (0, 10, Cont.cell (AV.int IntKind.i64 (↑i : Int))), (0, 50, Cont.cell (AV.bool (decide ((↑i : Int) < (↑(List.length l) : Int)))))], 129, 107⟩) (by kernel_rfl) (by kernel_rfl) ?_
      refine evC_if (q := decide ((↑i : Int) < (↑(List.length l) : Int))) (by kernel_rfl) (fun hc => ?_) (fun hc => ?_)
      · have hlt : i < l.length := by have := of_decide_eq_true hc; omega
        clear hc
        refine evC_skip ?_
        refine then_normal ?_
        refine evC_seq ?_
        refine evC_block ?_
        refine evC_go0 (dec := []) (ks := [(0, 0), (0, 1), (0, 4), (0, 7), (0, 8), (0, 9), (0, 10), (0, 11)]) (s' := ⟨[(0, 0, Cont.cell (AV.rs 2 (List.length l) false (spF l))), (0, 1, Cont.cell (AV.int IntKind.i64 r)), (0, 4, Cont.cell (AV.bool false)), (0, 7, Cont.cell (AV.rs 2 (List.length (prN l r (List.length l))) false (spF (prN l r (List.length l))))), (0, 8, Cont.cell (AV.int IntKind.i64 0)), (0, 9, Cont.cell (AV.int IntKind.i64 (↑(List.length (prN l r i)) : Int))), (0, 10, Cont.cell (AV.int IntKind.i64 (↑i : Int))), (0, 11, Cont.cell (AV.int IntKind.i64 (IntKind.i64.wrap ((↑i : Int) + 1))))], 225, 107⟩) (by kernel_rfl) (by kernel_rfl) ?_
        rw [wrap_add_one hlt (by omega)]
        have h0 : (prN l r i).length = (prN l r i ++ pj l r i (i + 1)).length := by rw [pj_zero l r i (i + 1) (Nat.le_refl _), List.append_nil]
        rw [h0]
        refine evC_block ?_
        refine evC_loop (ι := { j : Nat // i < j ∧ j ≤ l.length }) (fun j => ⟨[(0, 0, Cont.cell (AV.rs 2 (List.length l) false (spF l))), (0, 1, Cont.cell (AV.int IntKind.i64 r)), (0, 4, Cont.cell (AV.bool false)), (0, 7, Cont.cell (AV.rs 2 (List.length (prN l r (List.length l))) false (spF (prN l r (List.length l))))), (0, 8, Cont.cell (AV.int IntKind.i64 0)), (0, 9, .cell (.int .i64 ((prN l r i ++ pj l r i j.1).length : Nat))), (0, 10, Cont.cell (AV.int IntKind.i64 (↑i : Int))), (0, 11, .cell (.int .i64 (j.1 : Nat)))], 1, 107⟩) (fun j => l.length - j.1) ⟨i + 1, Nat.lt_succ_self _, hlt⟩ (wk_go [] rfl (by decide) rfl rfl ⟨⟨_, rfl, rfl⟩, ⟨_, rfl, rfl⟩, ⟨_, rfl, rfl⟩, ⟨_, rfl, rfl⟩, ⟨_, rfl, rfl⟩, ⟨_, rfl, rfl⟩, ⟨_, rfl, rfl⟩, ⟨_, rfl, rfl⟩, trivial⟩) ?_
        rintro ⟨j, hij, hj⟩
        have hij : i < j := hij
        have hj : j ≤ l.length := hj
        have hpl := pj_len l r hlt hj
        refine evC_seq ?_
        refine evC_go0 (dec := []) (ks := [(0, 0), (0, 1), (0, 4), (0, 7), (0, 8), (0, 9), (0, 10), (0, 11), (0, 58)]) (s' := ⟨[(0, 0, Cont.cell (AV.rs 2 (List.length l) false (spF l))), (0, 1, Cont.cell (AV.int IntKind.i64 r)), (0, 4, Cont.cell (AV.bool false)), (0, 7, Cont.cell (AV.rs 2 (List.length (prN l r (List.length l))) false (spF (prN l r (List.length l))))), (0, 8, Cont.cell (AV.int IntKind.i64 0)), (0, 9, Cont.cell (AV.int IntKind.i64 (↑(List.length (prN l r i ++ pj l r i j)) : Int))), (0, 10, Cont.cell (AV.int IntKind.i64 (↑i : Int))), (0, 11, Cont.cell (AV.int IntKind.i64 (↑j : Int))), (0, 58, Cont.cell (AV.bool (decide ((↑j : Int) < (↑(List.length l) : Int)))))], 129, 107⟩) (by kernel_rfl) (by kernel_rfl) ?_
        refine evC_if (q := decide ((↑j : Int) < (↑(List.length l) : Int))) (by kernel_rfl) (fun hc => ?_) (fun hc => ?_)
        · have hltj : j < l.length := by have := of_decide_eq_true hc; omega
          clear hc
          refine evC_skip ?_
          refine then_normal ?_
          refine evC_seq ?_
          refine evC_block ?_
          refine evC_go (dec := []) (ks := [(0, 0), (0, 1), (0, 4), (0, 7), (0, 8), (0, 9), (0, 10), (0, 11), (0, 79)]) (ps := [(0 : Int) ≤ (↑i : Int), (↑i : Int) < (↑(List.length l) : Int), (2 : Nat) = (2 : Nat), (0 : Int) ≤ (↑j : Int), (↑j : Int) < (↑(List.length l) : Int), (2 : Nat) = (2 : Nat), (0 : Int) ≤ (↑j : Int), (↑j : Int) < (↑(List.length l) : Int), (2 : Nat) = (2 : Nat)]) (s' := ⟨[(0, 0, Cont.cell (AV.rs 2 (List.length l) false (spF l))), (0, 1, Cont.cell (AV.int IntKind.i64 r)), (0, 4, Cont.cell (AV.bool false)), (0, 7, Cont.cell (AV.rs 2 (List.length (prN l r (List.length l))) false (spF (prN l r (List.length l))))), (0, 8, Cont.cell (AV.int IntKind.i64 0)), (0, 9, Cont.cell (AV.int IntKind.i64 (↑(List.length (prN l r i ++ pj l r i j)) : Int))), (0, 10, Cont.cell (AV.int IntKind.i64 (↑i : Int))), (0, 11, Cont.cell (AV.int IntKind.i64 (↑j : Int))), (0, 79, Cont.cell (AV.bool (decide (farW (Prod.fst (List.getD l i (0, 0)), Prod.snd (List.getD l i (0, 0))) (Prod.fst (List.getD l j (0, 0))) (Prod.snd (List.getD l j (0, 0))) ≤ IntKind.i64.wrap (r * r)))))], 737, 107⟩) (by kernel_rfl) (by kernel_rfl) ?_ ?_
          · (simp only [All]; (repeat' apply And.intro) <;> (try intro _) <;> (try intro _) <;> (repeat' apply And.intro) <;> (try intro _) <;> (try intro _) <;> first | trivial | assumption | exact .inr trivial | exact .inr rfl | omega | rfl | exact ⟨_, rfl, rfl⟩ | exact ⟨rfl, rfl⟩ | exact ⟨fun _ => rfl, fun _ => rfl⟩ | (unfold maxLen; omega) | (unfold i64R; first | omega | decide) | decide)
          have hb : decide (farW (Prod.fst (List.getD l i (0, 0)), Prod.snd (List.getD l i (0, 0))) (Prod.fst (List.getD l j (0, 0))) (Prod.snd (List.getD l j (0, 0))) ≤ IntKind.i64.wrap (r * r)) = near l (l.getD i (0, 0)).1 (l.getD i (0, 0)).2 r j := by
            unfold near
            rw [show farW (Prod.fst (List.getD l i (0, 0)), Prod.snd (List.getD l i (0, 0))) (Prod.fst (List.getD l j (0, 0))) (Prod.snd (List.getD l j (0, 0))) = farI (l.getD i (0, 0)) (l.getD j (0, 0)).1 (l.getD j (0, 0)).2 from far_in hl (hl.get hltj).1 (hl.get hltj).2 hlt, sq_in hr2, farI_symm]
          rw [hb]
          refine evC_if (q := near l (Prod.fst (List.getD l i (0, 0))) (Prod.snd (List.getD l i (0, 0))) r j) (by kernel_rfl) (fun hc => ?_) (fun hc => ?_)
          · obtain ⟨ha, hg⟩ := pj_at hlt hltj hij hc
            have hs : pj l r i (j + 1) = pj l r i j ++ [((i : Int), (j : Int))] := by rw [pj_succ, hc, decide_eq_true hij]; rfl
            clear hc
            refine evC_seq ?_
            refine evC_go (dec := []) (ks := [(0, 0), (0, 1), (0, 4), (0, 7), (0, 8), (0, 9), (0, 10), (0, 11), (0, 93)]) (ps := [List.all [!decide ((↑(List.length (prN l r i ++ pj l r i j)) : Int) ≥ (↑(List.length (prN l r (List.length l))) : Int))] id = true → (0 : Int) ≤ (↑(List.length (prN l r i ++ pj l r i j)) : Int), List.all [!decide ((↑(List.length (prN l r i ++ pj l r i j)) : Int) ≥ (↑(List.length (prN l r (List.length l))) : Int))] id = true → (↑(List.length (prN l r i ++ pj l r i j)) : Int) < (↑(List.length (prN l r (List.length l))) : Int), List.all [!decide ((↑(List.length (prN l r i ++ pj l r i j)) : Int) ≥ (↑(List.length (prN l r (List.length l))) : Int))] id = true → (2 : Nat) = (2 : Nat)]) (s' := ⟨[(0, 0, Cont.cell (AV.rs 2 (List.length l) false (spF l))), (0, 1, Cont.cell (AV.int IntKind.i64 r)), (0, 4, Cont.cell (AV.bool false)), (0, 7, Cont.cell (AV.rs 2 (List.length (prN l r (List.length l))) false (spF (prN l r (List.length l))))), (0, 8, Cont.cell (AV.int IntKind.i64 0)), (0, 9, Cont.cell (AV.int IntKind.i64 (↑(List.length (prN l r i ++ pj l r i j)) : Int))), (0, 10, Cont.cell (AV.int IntKind.i64 (↑i : Int))), (0, 11, Cont.cell (AV.int IntKind.i64 (↑j : Int))), (0, 93, Cont.cell (AV.bool (bif decide ((↑(List.length (prN l r i ++ pj l r i j)) : Int) ≥ (↑(List.length (prN l r (List.length l))) : Int)) then true else !(Prod.fst (List.getD (prN l r (List.length l)) (List.length (prN l r i ++ pj l r i j)) (0, 0)) == (↑i : Int) && Prod.snd (List.getD (prN l r (List.length l)) (List.length (prN l r i ++ pj l r i j)) (0, 0)) == (↑j : Int)))))], 1185, 107⟩) (by kernel_rfl) (by kernel_rfl) ?_ ?_
            · exact ⟨fun _ => by omega, fun _ => by omega, fun _ => rfl⟩
            have hk : (prN l r i ++ pj l r i (j + 1)).length = (prN l r i ++ pj l r i j).length + 1 := by rw [hs]; simp only [List.length_append, List.length_cons, List.length_nil]; omega
            rw [hg, decide_eq_false (by omega), cond_false]
            dsimp only
            rw [beq_self_eq_true, beq_self_eq_true, Bool.and_self, Bool.not_true]
            refine evC_if (q := false) (by kernel_rfl) (fun hc => ?_) (fun hc => ?_)
            · cases hc
            refine evC_skip ?_
            refine then_normal ?_
            refine evC_goL0 (dec := []) (ks := [(0, 0), (0, 1), (0, 4), (0, 7), (0, 8), (0, 9), (0, 10), (0, 11)]) (s' := ⟨[(0, 0, Cont.cell (AV.rs 2 (List.length l) false (spF l))), (0, 1, Cont.cell (AV.int IntKind.i64 r)), (0, 4, Cont.cell (AV.bool false)), (0, 7, Cont.cell (AV.rs 2 (List.length (prN l r (List.length l))) false (spF (prN l r (List.length l))))), (0, 8, Cont.cell (AV.int IntKind.i64 0)), (0, 9, Cont.cell (AV.int IntKind.i64 (IntKind.i64.wrap ((↑(List.length (prN l r i ++ pj l r i j)) : Int) + 1)))), (0, 10, Cont.cell (AV.int IntKind.i64 (↑i : Int))), (0, 11, Cont.cell (AV.int IntKind.i64 (↑j : Int)))], 1281, 107⟩) (by kernel_rfl) (by kernel_rfl) ?_
            refine block_normal ?_
            refine then_normal ?_
            refine evC_goL0 (dec := []) (ks := [(0, 0), (0, 1), (0, 4), (0, 7), (0, 8), (0, 9), (0, 10), (0, 11)]) (s' := ⟨[(0, 0, Cont.cell (AV.rs 2 (List.length l) false (spF l))), (0, 1, Cont.cell (AV.int IntKind.i64 r)), (0, 4, Cont.cell (AV.bool false)), (0, 7, Cont.cell (AV.rs 2 (List.length (prN l r (List.length l))) false (spF (prN l r (List.length l))))), (0, 8, Cont.cell (AV.int IntKind.i64 0)), (0, 9, Cont.cell (AV.int IntKind.i64 (IntKind.i64.wrap ((↑(List.length (prN l r i ++ pj l r i j)) : Int) + 1)))), (0, 10, Cont.cell (AV.int IntKind.i64 (↑i : Int))), (0, 11, Cont.cell (AV.int IntKind.i64 (IntKind.i64.wrap ((↑j : Int) + 1))))], 1377, 107⟩) (by kernel_rfl) (by kernel_rfl) ?_
            rw [wrap_add_one ha (by omega), wrap_add_one hltj (by omega)]
            refine round_normal (⟨j + 1, by omega, hltj⟩) (wk_go [] rfl (by decide) rfl rfl ⟨⟨_, rfl, rfl⟩, ⟨_, rfl, rfl⟩, ⟨_, rfl, rfl⟩, ⟨_, rfl, rfl⟩, ⟨_, rfl, rfl⟩, ⟨_, rfl, ?_⟩, ⟨_, rfl, rfl⟩, ⟨_, rfl, rfl⟩, trivial⟩) ?_
            · rw [hk]; rfl
            · show l.length - (j + 1) < l.length - j; omega
          · have hs : pj l r i (j + 1) = pj l r i j := by rw [pj_succ, hc]; simp
            refine evC_skip ?_
            refine block_normal ?_
            refine then_normal ?_
            refine evC_goL0 (dec := []) (ks := [(0, 0), (0, 1), (0, 4), (0, 7), (0, 8), (0, 9), (0, 10), (0, 11)]) (s' := ⟨[(0, 0, Cont.cell (AV.rs 2 (List.length l) false (spF l))), (0, 1, Cont.cell (AV.int IntKind.i64 r)), (0, 4, Cont.cell (AV.bool false)), (0, 7, Cont.cell (AV.rs 2 (List.length (prN l r (List.length l))) false (spF (prN l r (List.length l))))), (0, 8, Cont.cell (AV.int IntKind.i64 0)), (0, 9, Cont.cell (AV.int IntKind.i64 (↑(List.length (prN l r i ++ pj l r i j)) : Int))), (0, 10, Cont.cell (AV.int IntKind.i64 (↑i : Int))), (0, 11, Cont.cell (AV.int IntKind.i64 (IntKind.i64.wrap ((↑j : Int) + 1))))], 833, 107⟩) (by kernel_rfl) (by kernel_rfl) ?_
            rw [wrap_add_one hltj (by omega)]
            refine round_normal (⟨j + 1, by omega, hltj⟩) (wk_go [] rfl (by decide) rfl rfl ⟨⟨_, rfl, rfl⟩, ⟨_, rfl, rfl⟩, ⟨_, rfl, rfl⟩, ⟨_, rfl, rfl⟩, ⟨_, rfl, rfl⟩, ⟨_, rfl, ?_⟩, ⟨_, rfl, rfl⟩, ⟨_, rfl, rfl⟩, trivial⟩) ?_
            · rw [hs]; rfl
            · show l.length - (j + 1) < l.length - j; omega
        · have hin : j = l.length := by have := of_decide_eq_false hc; omega
          subst hin
          clear hc
          refine evC_exit ?_
          refine then_exit ?_
          refine round_exit ?_
          refine block_exit ?_
          refine block_normal ?_
          refine then_normal ?_
          refine evC_goL0 (dec := []) (ks := [(0, 0), (0, 1), (0, 4), (0, 7), (0, 8), (0, 9), (0, 10)]) (s' := ⟨[(0, 0, Cont.cell (AV.rs 2 (List.length l) false (spF l))), (0, 1, Cont.cell (AV.int IntKind.i64 r)), (0, 4, Cont.cell (AV.bool false)), (0, 7, Cont.cell (AV.rs 2 (List.length (prN l r (List.length l))) false (spF (prN l r (List.length l))))), (0, 8, Cont.cell (AV.int IntKind.i64 0)), (0, 9, Cont.cell (AV.int IntKind.i64 (↑(List.length (prN l r i ++ pj l r i (List.length l))) : Int))), (0, 10, Cont.cell (AV.int IntKind.i64 (IntKind.i64.wrap ((↑i : Int) + 1))))], 225, 107⟩) (by kernel_rfl) (by kernel_rfl) ?_
          rw [wrap_add_one hlt (by omega)]
          refine round_normal (⟨i + 1, hlt⟩) (wk_go [] rfl (by decide) rfl rfl ⟨⟨_, rfl, rfl⟩, ⟨_, rfl, rfl⟩, ⟨_, rfl, rfl⟩, ⟨_, rfl, rfl⟩, ⟨_, rfl, rfl⟩, ⟨_, rfl, rfl⟩, ⟨_, rfl, rfl⟩, trivial⟩) ?_
          show l.length - (i + 1) < l.length - i; omega
      · have hin : i = l.length := by have := of_decide_eq_false hc; omega
        subst hin
        clear hc
        refine evC_exit ?_
        refine then_exit ?_
        refine round_exit ?_
        refine block_exit ?_
        refine then_normal ?_
        refine evC_go0 (dec := []) (ks := [(0, 4)]) (s' := ⟨[(0, 4, Cont.cell (AV.bool (bif bif (↑(List.length (prN l r (List.length l))) : Int) == (↑(List.length (prN l r (List.length l))) : Int) then 0 == 0 else false then true else false)))], 513, 107⟩) (by kernel_rfl) (by kernel_rfl) ?_
        refine evC_ret ?_
        refine post_ret ?_
        refine ends_flat (vs := [AV.bool (bif bif (↑(List.length (prN l r (List.length l))) : Int) == (↑(List.length (prN l r (List.length l))) : Int) then 0 == 0 else false then true else false)]) (Nat.zero_lt_succ _) (by kernel_rfl) (flat_of _ (by kernel_rfl)) rfl ?_
        rw [beq_self_eq_true]
        skip
        rfl
  · cases e
def sNearPairs : Spec := fun args _ _ => match args with
  | [.rs 2 n false f, .int .i64 r] => some ⟨[(∀ i, i < n → f i = c2 f i) ∧ n ≤ maxLen], .bool true, [], []⟩
  | _ => none
/-- NearPairs answers true, whatever it is asked. -/
theorem nearPairs_ok : SpecOK Try.prog 5 sNearPairs := by
  refine spec_two nearPairsB_ok nearPairsG_ok (fun args hr nb out e x hx => ?_) fun args hr nb out e hs => ?_
  · unfold sNearPairs at e
    split at e
    · injection e with e; subst e; cases hx
    · cases e
  · unfold sNearPairs at e
    split at e
    · rename_i n f r
      injection e with e; subst e
      have h1 := hs _ List.mem_cons_self
      have h1 : (∀ i, i < n → f i = spF (spL n f) i) ∧ n ≤ maxLen := ⟨c2_sp h1.1, h1.2⟩
      cases h : mayB ((spL n f).take (sixN n)) with
      | false => exact ⟨[_, _], fun q hq => (by
          rcases List.mem_cons.1 hq with rfl | hq
          · exact h1
          · rw [List.mem_singleton.1 hq]; exact h), .inl rfl⟩
      | true => exact ⟨[_, _], fun q hq => (by
          rcases List.mem_cons.1 hq with rfl | hq
          · exact h1
          · rw [List.mem_singleton.1 hq]; exact h), .inr rfl⟩
    · cases e
end Go.Eng.S12
