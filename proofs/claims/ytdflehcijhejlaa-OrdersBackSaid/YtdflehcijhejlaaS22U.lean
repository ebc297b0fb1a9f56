/- Seat 22: the law of there and back, walked. -/
import Derived.Test.YtdflehcijhejlaaEngX
import Derived.Test.YtdflehcijhejlaaS22T
import Derived.Test.YtdflehcijhejlaaS22I
set_option linter.unusedSimpArgs false
set_option linter.unusedVariables false
namespace Go.Eng.S22
open Go.Proofs Go.IntWalk
set_option maxRecDepth 10000

theorem same_of' {n : Nat} {w x : Os} (h : ∀ i, i < n → w i = x i) : sameF n n w x = true := by
  unfold sameF
  rw [all_true (p := fun i => oEq (w i) (x i)) fun i hi => oEq_iff.2 (h i hi)]
  simp
theorem orB_rng {q : Od} {x : Int} (h : x ∈ orB q) : 0 ≤ x ∧ x ≤ 255 := by
  unfold orB at h
  simp only [List.mem_cons, List.not_mem_nil, or_false] at h
  rcases h with rfl | rfl | rfl | rfl | rfl | rfl | rfl | rfl | rfl | rfl | rfl
  all_goals first | exact by4_rng _ _ | omega
theorem encL_mem (w : Os) : ∀ (m : Nat) (x : Int), x ∈ encL w m → 0 ≤ x ∧ x ≤ 255
  | 0, x, h => by cases h
  | m + 1, x, h => (List.mem_append.1 h).elim (encL_mem w m x) orB_rng
theorem encL_rng (w : Os) (m j : Nat) : 0 ≤ (encL w m).getD j 0 ∧ (encL w m).getD j 0 ≤ 255 := by
  rw [List.getD_eq_getElem?_getD]
  cases h : (encL w m)[j]? with
  | none => exact ⟨Int.le_refl 0, by show (0 : Int) ≤ 255; omega⟩
  | some x => exact encL_mem w m x (List.mem_iff_getElem?.2 ⟨j, h⟩)
def sLawB : Spec := fun args hr nb => match args with
  | [v, z] => match sl 5 hr v, sl 1 hr z with
    | some (n, f, rd), some (n2, f2, rd2) => some ⟨[(∀ i, i < n → f i = nO (O f) i) ∧ n ≤ maxLen, IsU n2 f2 ∧ n2 ≤ maxLen], .bool true, rd ++ rd2, []⟩
    | _, _ => none
  | _ => none
theorem law_back_ok : SpecOK Try.prog 6 sLawB := by
  refine spec_own (by kernel_rfl) T_ok (sget_cons few_ok (sget_cons enc_ok (sget_cons dec_ok (sget_cons same_ok (sget_cons awake_ok sget_nil))))) Try.func6 rfl rfl fun args hr nb out e => ?_
  unfold sLawB at e
  split at e
  · rename_i v z
    split at e
    · rename_i n f rd n2 f2 rd2 hs1 hs2
      injection e with e; subst e
      refine ⟨fun x hx => (List.mem_append.1 hx).elim (sl_rd hs1 x) (sl_rd hs2 x), false, [.rs 5 n false (nO (O f)), .rs 1 n2 false (nU (U f2))], rfl, fun hs => ?_⟩
      obtain ⟨h1, h2⟩ := hs _ List.mem_cons_self
      obtain ⟨h3, h4⟩ := hs _ (List.mem_cons_of_mem _ List.mem_cons_self)
      refine ⟨.cons _ _ _ _ (.slice _ _ _ _ _ hs1 (fun y hy => ⟨List.mem_append_left _ hy, by simp⟩) _ fun i hi => ⟨h1 i hi, (nO_flat _ i).has⟩)
        (.cons _ _ _ _ (.slice _ _ _ _ _ hs2 (fun y hy => ⟨List.mem_append_right _ hy, by simp⟩) _ fun i hi => ⟨(h3.get i hi).1, (nU_flat _ i).has⟩) .nil), ?_⟩
      clear hs h1
      have h5 : ∀ i, i < n2 → 0 ≤ U f2 i ∧ U f2 i ≤ 255 := fun i hi => (h3.get i hi).2
      have h6 : IsU n2 (nU (U f2)) := ⟨fun i hi => ⟨rfl, (h3.get i hi).2⟩⟩
      clear h3
      generalize O f = w
      generalize U f2 = u at h5 h6 ⊢
      refine evC_go0 (dec := []) (ks := [(0, 0), (0, 1), (0, 4)]) (s' := ⟨[(0, 0, Cont.cell (AV.rs 5 n false (nO w))), (0, 1, Cont.cell (AV.rs 1 n2 false (nU u))), (0, 4, Cont.cell (AV.bool false))], 9, 61⟩) (by kernel_rfl) (by kernel_rfl) ?_
      refine evC_go (dec := []) (ks := [(0, 0), (0, 1), (0, 4)]) (ps := [(∀ (i : Nat), i < n → nO w i = nO (O (nO w)) i) ∧ n ≤ maxLen]) (s' := ⟨[(0, 0, Cont.cell (AV.rs 5 (cut n 66) false (nO (O (nO w))))), (0, 1, Cont.cell (AV.rs 1 n2 false (nU u))), (0, 4, Cont.cell (AV.bool false))], 33, 61⟩) (by kernel_rfl) (by kernel_rfl) ?_ ?_
      · exact ⟨fun _ _ => rfl, h2⟩
      rw [O_nO]
      obtain ⟨hm1, hm2⟩ := cut_le n 66
      generalize cut n 66 = m at hm1 hm2 ⊢
      refine evC_seq ?_
      refine evC_go (dec := []) (ks := [(0, 0), (0, 1), (0, 4), (0, 5), (41, 0)]) (ps := [(∀ (i : Nat), i < m → nO w i = nO (O (nO w)) i) ∧ m ≤ maxLen]) (s' := ⟨[(0, 0, Cont.cell (AV.rs 5 m false (nO w))), (0, 1, Cont.cell (AV.rs 1 n2 false (nU u))), (0, 4, Cont.cell (AV.bool false)), (0, 5, Cont.cell (AV.vs 41)), (41, 0, Cont.vec 1 5 (bif okE m (O (nO w)) then 11 * m else 0) (lstU (encL (O (nO w)) m)))], 57, 61⟩) (by kernel_rfl) (by kernel_rfl) ?_ ?_
      · exact ⟨fun _ _ => rfl, by unfold maxLen; omega⟩
      rw [O_nO]
      refine evC_cutThen (ι := Unit) (fun _ => ⟨[(0, 0, Cont.cell (AV.rs 5 m false (nO w))), (0, 1, Cont.cell (AV.rs 1 n2 false (nU u))), (0, 4, Cont.cell (AV.bool false)), (0, 5, Cont.cell (AV.vs 1)), (1, 0, Cont.vec 1 5 (bif okE m w then 11 * m else 0) (lstU (encL w m)))], 2, 61⟩) ?_ ?_
      · refine evC_go0 (dec := []) (ks := [(0, 0), (0, 1), (0, 4), (0, 5), (0, 23), (41, 0)]) (s' := ⟨[(0, 0, Cont.cell (AV.rs 5 m false (nO w))), (0, 1, Cont.cell (AV.rs 1 n2 false (nU u))), (0, 4, Cont.cell (AV.bool false)), (0, 5, Cont.cell (AV.vs 41)), (0, 23, Cont.cell (AV.bool (bif decide ((↑(bif okE m w then 11 * m else 0) : Int) > 0) then true else (↑m : Int) == 0))), (41, 0, Cont.vec 1 5 (bif okE m w then 11 * m else 0) (lstU (encL w m)))], 121, 61⟩) (by kernel_rfl) (by kernel_rfl) ?_

        have hc0 : ∀ b, (bif decide (((bif okE m w then 11 * m else 0 : Nat) : Int) > 0) then true else ((m : Nat) : Int) == 0) = b → b = okE m w := by
          intro b hb
          cases hE : okE m w with
          | true =>
            rw [hE] at hb
            by_cases h : m = 0
            · subst h; rw [← hb]; rfl
            · have : decide (((bif true then 11 * m else 0 : Nat) : Int) > 0) = true := decide_eq_true (by show ((11 * m : Nat) : Int) > 0; omega)
              rw [this] at hb
              exact hb.symm
          | false =>
            rw [hE] at hb
            have h : m ≠ 0 := by
              intro h
              subst h
              cases hE
            have : ((m : Int) == 0) = false := by simp [h]
            rw [this] at hb
            exact hb.symm
        refine evC_if (q := bif decide ((↑(bif okE m w then 11 * m else 0) : Int) > 0) then true else (↑m : Int) == 0) (by kernel_rfl) (fun hc => ?_) (fun hc => ?_)
        · have hE := (hc0 _ hc).symm
          rw [hE]
          clear hc hc0
          obtain ⟨q1, q2⟩ := dec_of_enc hE
          have i1 : IsU (11 * m) (lstU (encL w m)) := ⟨fun j _ => ⟨rfl, encL_rng w m j⟩⟩
          have p1 : errD (11 * m) (U (lstU (encL w m))) = 0 := q1
          have p2 : lenD (11 * m) (U (lstU (encL w m))) = m := q2
          have hall : allO w m = true := by unfold okE at hE; simp at hE; exact hE.2
          have p3 : ∀ j, j < m → decL (U (lstU (encL w m))) j = w j := fun j hj => dec_enc hj (all_get hall hj)
          refine evC_go (dec := []) (ks := [(0, 0), (0, 1), (0, 4), (0, 5), (0, 6), (0, 7), (41, 0), (129, 0)]) (ps := [IsU ((11 : Nat) * m) (lstU (encL w m)) ∧ (11 : Nat) * m ≤ maxLen]) (s' := ⟨[(0, 0, Cont.cell (AV.rs 5 m false (nO w))), (0, 1, Cont.cell (AV.rs 1 n2 false (nU u))), (0, 4, Cont.cell (AV.bool false)), (0, 5, Cont.cell (AV.vs 41)), (0, 6, Cont.cell (AV.vs 129)), (0, 7, Cont.cell (AV.int IntKind.i64 (errD (11 * m) (U (lstU (encL w m)))))), (41, 0, Cont.vec 1 5 (11 * m) (lstU (encL w m))), (129, 0, Cont.vec 5 28 (lenD (11 * m) (U (lstU (encL w m)))) (nO (decL (U (lstU (encL w m))))))], 193, 61⟩) (by kernel_rfl) (by kernel_rfl) ?_ ?_
          · exact ⟨i1, by unfold maxLen; omega⟩
          rw [p1, p2]
          refine evC_go (dec := []) (ks := [(0, 0), (0, 1), (0, 4), (0, 5), (0, 37), (41, 0)]) (ps := [(∀ (i : Nat), i < m → nO (decL (U (lstU (encL w m)))) i = nO (O (nO (decL (U (lstU (encL w m)))))) i) ∧ (∀ (i : Nat), i < m → nO w i = nO (O (nO w)) i) ∧ m ≤ maxLen ∧ m ≤ maxLen]) (s' := ⟨[(0, 0, Cont.cell (AV.rs 5 m false (nO w))), (0, 1, Cont.cell (AV.rs 1 n2 false (nU u))), (0, 4, Cont.cell (AV.bool false)), (0, 5, Cont.cell (AV.vs 41)), (0, 37, Cont.cell (AV.bool (bif !sameF m m (O (nO (decL (U (lstU (encL w m)))))) (O (nO w)) then true else 0 != 0))), (41, 0, Cont.vec 1 5 (11 * m) (lstU (encL w m)))], 257, 61⟩) (by kernel_rfl) (by kernel_rfl) ?_ ?_
          · exact ⟨fun _ _ => rfl, fun _ _ => rfl, by unfold maxLen; omega, by unfold maxLen; omega⟩
          rw [O_nO, O_nO, same_of' p3]
          refine evC_if (q := false) (by kernel_rfl) (fun hc => ?_) (fun hc => ?_)
          · cases hc
          refine evC_skip ?_
          refine cut_normal (()) (wk_go [41] rfl (by decide) rfl rfl ⟨⟨_, rfl, rfl⟩, ⟨_, rfl, rfl⟩, ⟨_, rfl, rfl⟩, ⟨_, rfl, rfl⟩, ⟨_, rfl, ⟨rfl, rfl, rfl, fun _ _ => rfl⟩⟩, trivial⟩)
        · refine evC_skip ?_
          refine cut_normal (()) (wk_go [41] rfl (by decide) rfl rfl ⟨⟨_, rfl, rfl⟩, ⟨_, rfl, rfl⟩, ⟨_, rfl, rfl⟩, ⟨_, rfl, rfl⟩, ⟨_, rfl, ⟨rfl, rfl, rfl, fun _ _ => rfl⟩⟩, trivial⟩)
      intro _
      refine evC_go (dec := []) (ks := [(0, 1), (0, 4), (0, 9), (0, 10), (10, 0)]) (ps := [IsU n2 (nU u) ∧ n2 ≤ maxLen]) (s' := ⟨[(0, 1, Cont.cell (AV.rs 1 n2 false (nU u))), (0, 4, Cont.cell (AV.bool false)), (0, 9, Cont.cell (AV.vs 10)), (0, 10, Cont.cell (AV.int IntKind.i64 (errD n2 (U (nU u))))), (10, 0, Cont.vec 5 28 (lenD n2 (U (nU u))) (nO (decL (U (nU u)))))], 74, 61⟩) (by kernel_rfl) (by kernel_rfl) ?_ ?_
      · exact ⟨h6, h4⟩
      rw [U_nU]
      rcases dec_cases n2 u with ⟨r1, r2⟩ | ⟨r1, r2, r3⟩
      · have r4 : (errD n2 u != 0) = true := by simpa [bne] using r1
        rw [r2]
        refine evC_seq ?_
        refine evC_go0 (dec := []) (ks := [(0, 1), (0, 4), (0, 9), (0, 45), (10, 0)]) (s' := ⟨[(0, 1, Cont.cell (AV.rs 1 n2 false (nU u))), (0, 4, Cont.cell (AV.bool false)), (0, 9, Cont.cell (AV.vs 10)), (0, 45, Cont.cell (AV.bool (errD n2 u != 0))), (10, 0, Cont.vec 5 28 0 (nO (decL u)))], 90, 61⟩) (by kernel_rfl) (by kernel_rfl) ?_
        refine evC_if (q := errD n2 u != 0) (by kernel_rfl) (fun hc => ?_) (fun hc => ?_)
        · refine evC_go0 (dec := []) (ks := [(0, 1), (0, 4), (0, 9), (10, 0)]) (s' := ⟨[(0, 1, Cont.cell (AV.rs 1 n2 false (nU u))), (0, 4, Cont.cell (AV.bool true)), (0, 9, Cont.cell (AV.vs 10)), (10, 0, Cont.vec 5 28 0 (nO (decL u)))], 146, 61⟩) (by kernel_rfl) (by kernel_rfl) ?_
          refine evC_ret ?_
          refine then_ret ?_
          refine post_ret ?_
          refine ends_flat (vs := [AV.bool true]) (Nat.zero_lt_succ _) (by kernel_rfl) (flat_of _ (by kernel_rfl)) rfl ?_
          rfl
        · rw [r4] at hc; cases hc
      · rw [r1]
        have hl := lenD_le n2 u
        refine evC_seq ?_
        refine evC_go0 (dec := []) (ks := [(0, 1), (0, 4), (0, 9), (0, 45), (10, 0)]) (s' := ⟨[(0, 1, Cont.cell (AV.rs 1 n2 false (nU u))), (0, 4, Cont.cell (AV.bool false)), (0, 9, Cont.cell (AV.vs 10)), (0, 45, Cont.cell (AV.bool false)), (10, 0, Cont.vec 5 28 (lenD n2 u) (nO (decL u)))], 90, 61⟩) (by kernel_rfl) (by kernel_rfl) ?_
        refine evC_if (q := false) (by kernel_rfl) (fun hc => ?_) (fun hc => ?_)
        · cases hc
        clear hc
        unfold maxLen at h4
        refine evC_skip ?_
        refine then_normal ?_
        refine evC_go (dec := []) (ks := [(0, 4)]) (ps := [(∀ (i : Nat), i < lenD n2 u → nO (decL u) i = nO (O (nO (decL u))) i) ∧ lenD n2 u ≤ maxLen, (bif okE (lenD n2 u) (O (nO (decL u))) then (11 : Nat) * lenD n2 u else (0 : Nat)) = (0 : Nat) ∨ (1 : Nat) = (1 : Nat), ∀ (i : Nat), (i < bif okE (lenD n2 u) (O (nO (decL u))) then (11 : Nat) * lenD n2 u else (0 : Nat)) → lstU (encL (O (nO (decL u))) (lenD n2 u)) i = AV.int IntKind.u8 (iv (lstU (encL (O (nO (decL u))) (lenD n2 u)) i)), n2 = (0 : Nat) ∨ (1 : Nat) = (1 : Nat), ∀ (i : Nat), i < n2 → nU u i = AV.int IntKind.u8 (iv (nU u i))]) (s' := ⟨[(0, 4, Cont.cell (AV.bool (bif ByteArray.toList (mkStr (bif okE (lenD n2 u) (O (nO (decL u))) then 11 * lenD n2 u else 0) (lstU (encL (O (nO (decL u))) (lenD n2 u)))) == ByteArray.toList (mkStr n2 (nU u)) then true else false)))], 170, 61⟩) (by kernel_rfl) (by kernel_rfl) ?_ ?_
        · exact ⟨⟨fun _ _ => rfl, by unfold maxLen; omega⟩, .inr rfl, fun _ _ => rfl, .inr rfl, fun _ _ => rfl⟩
        refine evC_ret ?_
        refine post_ret ?_
        refine ends_flat (vs := [AV.bool (bif ByteArray.toList (mkStr (bif okE (lenD n2 u) (O (nO (decL u))) then 11 * lenD n2 u else 0) (lstU (encL (O (nO (decL u))) (lenD n2 u)))) == ByteArray.toList (mkStr n2 (nU u)) then true else false)]) (Nat.zero_lt_succ _) (by kernel_rfl) (flat_of _ (by kernel_rfl)) rfl ?_
        rw [O_nO, r3]
        have hs : mkStr n2 (nU u) = mkStr (11 * lenD n2 u) (lstU (encL (decL u) (lenD n2 u))) := by
          rw [← r2]
          exact mkStr_congr fun i hi => (enc_dec (m := lenD n2 u) (fun i hi => h5 i (by omega)) (by omega)).symm
        rw [hs]
        simp [oneAV]
    · cases e
  · cases e
end Go.Eng.S22
