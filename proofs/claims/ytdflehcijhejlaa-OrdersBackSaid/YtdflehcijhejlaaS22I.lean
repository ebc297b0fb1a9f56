/- Seat 22: the laws of numbers, checks and decoding, walked. -/
import Derived.Test.YtdflehcijhejlaaEngX
import Derived.Test.YtdflehcijhejlaaS22H
set_option linter.unusedSimpArgs false
set_option linter.unusedVariables false
namespace Go.Eng.S22
open Go.Proofs Go.IntWalk
set_option maxRecDepth 10000

theorem law_numbers_ok : SpecOK Try.prog 3 sAwake := by
  refine spec_own (by kernel_rfl) T_ok (sget_cons awake_ok sget_nil) Try.func3 rfl rfl fun args hr nb out e => ?_
  unfold sAwake at e
  split at e
  · injection e with e; subst e
    refine ⟨(fun _ h => nomatch h), true, [], rfl, fun hs => ⟨.nil, ?_⟩⟩
    refine evC_go0 (dec := []) (ks := [(0, 0)]) (s' := ⟨[(0, 0, Cont.cell (AV.bool false))], 9, 4⟩) (by kernel_rfl) (by kernel_rfl) ?_
    refine evC_go0 (dec := []) (ks := [(0, 0)]) (s' := ⟨[(0, 0, Cont.cell (AV.bool true))], 41, 4⟩) (by kernel_rfl) (by kernel_rfl) ?_
    refine evC_ret ?_
    refine post_ret ?_
    refine ends_flat (vs := [AV.bool true]) (Nat.zero_lt_succ _) (by kernel_rfl) (flat_of _ (by kernel_rfl)) rfl ?_
    rfl
  · cases e
def sLawC : Spec := fun args _ _ => match args with
  | [.agg [.arr 64 f, .arr 64 g, .arr 64 e, .int .i64 W, .int .i64 H, .int .i64 K, .arr 64 n], .int .i64 team, .agg [.int .i64 k, .int .i64 u, .int .i64 i, .int .i64 j, .int .i64 t]] =>
    some ⟨[IsSc f g e n], .bool true, [], []⟩
  | _ => none
theorem law_checks_ok : SpecOK Try.prog 7 sLawC := by
  refine spec_own (by kernel_rfl) T_ok (sget_cons check_ok (sget_cons refCheck_ok (sget_cons awake_ok sget_nil))) Try.func7 rfl rfl fun args hr nb out e => ?_
  unfold sLawC at e
  split at e
  · rename_i f g s W H K n team k u i j t
    injection e with e; subst e
    refine ⟨(fun _ h => nomatch h), true, [sc (fun i => iv (f i)) (fun i => bv (g i)) (fun i => iv (s i)) W H K (fun i => bv (n i)), .int .i64 team, od k u i j t], rfl, fun hs => ?_⟩
    have hA := hs _ List.mem_cons_self
    rw [hA.eq]
    generalize (fun i => iv (f i)) = F, (fun i => bv (g i)) = G, (fun i => iv (s i)) = E, (fun i => bv (n i)) = N
    clear hs hA
    refine ⟨.cons _ _ _ _ (.same _ _ (sc_flat F G E W H K N).has) (.cons _ _ _ _ (.same _ _ (.int _ _)) (.cons _ _ _ _ (.same _ _ (od_flat _ _ _ _ _).has) .nil)), ?_⟩
    have hA := isSc F G E N
    unfold sc od
    refine evC_go0 (dec := []) (ks := [(0, 1), (0, 3), (0, 5), (0, 6), (1, 0), (1, 64), (1, 128), (1, 192), (1, 193), (1, 194), (1, 195), (1, 259), (9, 0), (9, 1), (9, 2), (9, 3), (9, 4), (9, 5)]) (s' := ⟨[(0, 1, Cont.cell (AV.int IntKind.i64 team)), (0, 3, Cont.cell (AV.ptr 1 0)), (0, 5, Cont.cell (AV.ptr 9 0)), (0, 6, Cont.cell (AV.bool false)), (1, 0, Cont.arr 64 fun i => AV.int IntKind.i64 (F i)), (1, 64, Cont.arr 64 fun i => AV.bool (G i)), (1, 128, Cont.arr 64 fun i => AV.int IntKind.i64 (E i)), (1, 192, Cont.cell (AV.int IntKind.i64 W)), (1, 193, Cont.cell (AV.int IntKind.i64 H)), (1, 194, Cont.cell (AV.int IntKind.i64 K)), (1, 195, Cont.arr 64 fun i => AV.bool (N i)), (1, 259, Cont.top), (9, 0, Cont.cell (AV.int IntKind.i64 k)), (9, 1, Cont.cell (AV.int IntKind.i64 u)), (9, 2, Cont.cell (AV.int IntKind.i64 i)), (9, 3, Cont.cell (AV.int IntKind.i64 j)), (9, 4, Cont.cell (AV.int IntKind.i64 t)), (9, 5, Cont.top)], 25, 19⟩) (by kernel_rfl) (by kernel_rfl) ?_
    refine evC_go (dec := []) (ks := [(0, 6)]) (ps := [IsSc (fun i => AV.int IntKind.i64 (F i)) (fun i => AV.bool (G i)) (fun i => AV.int IntKind.i64 (E i)) fun i => AV.bool (N i), IsSc (fun i => AV.int IntKind.i64 (F i)) (fun i => AV.bool (G i)) (fun i => AV.int IntKind.i64 (E i)) fun i => AV.bool (N i)]) (s' := ⟨[(0, 6, Cont.cell (AV.bool (bif chkF F G E W H K N team (k, u, i, j, t) == chkF F G E W H K N team (k, u, i, j, t) then true else false)))], 129, 19⟩) (by kernel_rfl) (by kernel_rfl) ?_ ?_
    · (simp only [All]; (repeat' apply And.intro) <;> (try intro _) <;> (try intro _) <;> (repeat' apply And.intro) <;> (try intro _) <;> (try intro _) <;> first | trivial | assumption | exact .inr trivial | exact .inr rfl | omega | rfl | exact ⟨_, rfl, rfl⟩ | exact ⟨rfl, rfl⟩ | exact ⟨fun _ => rfl, fun _ => rfl⟩ | (unfold maxLen; omega) | (unfold i64R; first | omega | decide) | decide)
    refine evC_ret ?_
    refine post_ret ?_
    refine ends_flat (vs := [AV.bool (bif chkF F G E W H K N team (k, u, i, j, t) == chkF F G E W H K N team (k, u, i, j, t) then true else false)]) (Nat.zero_lt_succ _) (by kernel_rfl) (flat_of _ (by kernel_rfl)) rfl ?_
    simp [oneAV]
  · cases e
theorem sameF_self {n : Nat} {w : Os} : sameF n n w w = true := by
  unfold sameF
  simp [oEq_iff.2 rfl]
def sLawD : Spec := fun args hr nb => match args with
  | [v] => match sl 1 hr v with
    | some (n, f, rd) => some ⟨[IsU n f ∧ n ≤ maxLen], .bool true, rd, []⟩
    | none => none
  | _ => none
theorem nU_cut (u : Nat → Int) : (fun i => nU u (Int.toNat 0 + i)) = nU u := funext fun i => by simp
theorem lenD_le (n : Nat) (u : Nat → Int) : lenD n u ≤ 64 := by
  unfold lenD
  cases (n % 11 == 0) with
  | false => simp
  | true =>
    by_cases h : 64 < n / 11
    · simp [blt_yes h]
    · simp only [blt_no h, Bool.not_true, cond_false]
      cases Nat.blt (fstN (badD u) (n / 11)) (n / 11) with
      | true => simp
      | false => simp; omega
theorem law_decodes_ok : SpecOK Try.prog 5 sLawD := by
  refine spec_own (by kernel_rfl) T_ok (sget_cons dec_ok (sget_cons rdec_ok (sget_cons same_ok (sget_cons awake_ok sget_nil)))) Try.func5 rfl rfl fun args hr nb out e => ?_
  unfold sLawD at e
  split at e
  · rename_i v
    split at e
    · rename_i n f rd hs1
      injection e with e; subst e
      refine ⟨fun x hx => sl_rd hs1 x hx, false, [.rs 1 n false (nU (U f))], rfl, fun hs => ?_⟩
      obtain ⟨h1, h4⟩ := hs _ List.mem_cons_self
      refine ⟨.cons _ _ _ _ (.slice _ _ _ _ _ hs1 (fun y hy => ⟨hy, by simp⟩) _ fun i hi => ⟨(h1.get i hi).1, (nU_flat _ i).has⟩) .nil, ?_⟩
      clear hs
      have h2 : ∀ i, i < n → 0 ≤ U f i ∧ U f i ≤ 255 := fun i hi => (h1.get i hi).2
      clear h1
      unfold maxLen at h4
      generalize U f = u at h2 ⊢
      refine evC_go0 (dec := []) (ks := [(0, 0), (0, 2)]) (s' := ⟨[(0, 0, Cont.cell (AV.rs 1 n false (nU u))), (0, 2, Cont.cell (AV.bool false))], 9, 42⟩) (by kernel_rfl) (by kernel_rfl) ?_
      refine evC_cutTo (ι := { m : Nat // m ≤ n }) (fun x => ⟨[(0, 0, .cell (.rs 1 x.1 false (nU u))), (0, 2, Cont.cell (AV.bool false))], 1, 42⟩) ?_ ?_
      · refine evC_go0 (dec := []) (ks := [(0, 0), (0, 2), (0, 11)]) (s' := ⟨[(0, 0, Cont.cell (AV.rs 1 n false (nU u))), (0, 2, Cont.cell (AV.bool false)), (0, 11, Cont.cell (AV.bool (decide ((↑n : Int) > 730))))], 33, 42⟩) (by kernel_rfl) (by kernel_rfl) ?_
        refine evC_if (q := decide ((↑n : Int) > 730)) (by kernel_rfl) (fun hc => ?_) (fun hc => ?_)
        · have hg : 730 ≤ n := by have := of_decide_eq_true hc; omega
          refine evC_goL (dec := []) (ks := [(0, 0), (0, 2)]) (ps := [(0 : Int) ≤ (0 : Int), (0 : Int) ≤ (730 : Int), (730 : Int) ≤ (↑n : Int), (730 : Int) = (730 : Int), (1 : Nat) = (1 : Nat), false = true → true = true]) (s' := ⟨[(0, 0, Cont.cell (AV.rs 1 730 false fun i => nU u (Int.toNat 0 + i))), (0, 2, Cont.cell (AV.bool false))], 57, 42⟩) (by kernel_rfl) (by kernel_rfl) ?_ ?_
          · (simp only [All]; (repeat' apply And.intro) <;> (try intro _) <;> (try intro _) <;> (repeat' apply And.intro) <;> (try intro _) <;> (try intro _) <;> first | trivial | assumption | exact .inr trivial | exact .inr rfl | omega | rfl | exact ⟨_, rfl, rfl⟩ | exact ⟨rfl, rfl⟩ | exact ⟨fun _ => rfl, fun _ => rfl⟩ | (unfold maxLen; omega) | (unfold i64R; first | omega | decide) | decide)
          rw [nU_cut]
          refine cut_normal (⟨730, hg⟩) (wk_go [] rfl (by decide) rfl rfl ⟨⟨_, rfl, rfl⟩, ⟨_, rfl, rfl⟩, trivial⟩)
        · refine evC_skip ?_
          refine cut_normal (⟨n, Nat.le_refl _⟩) (wk_go [] rfl (by decide) rfl rfl ⟨⟨_, rfl, rfl⟩, ⟨_, rfl, rfl⟩, trivial⟩)
      rintro ⟨m, hm⟩
      have i1 : IsU m (nU u) := ⟨fun i hi => ⟨rfl, h2 i (by omega)⟩⟩
      have hl : lenD m (U (nU u)) ≤ 64 := lenD_le _ _
      refine evC_go (dec := []) (ks := [(0, 0), (0, 2), (0, 3), (0, 4), (0, 5), (9, 0)]) (ps := [IsU m (nU u) ∧ m ≤ maxLen]) (s' := ⟨[(0, 0, Cont.cell (AV.rs 1 m false (nU u))), (0, 2, Cont.cell (AV.bool false)), (0, 3, Cont.cell (AV.vs 9)), (0, 4, Cont.cell (AV.int IntKind.i64 (errD m (U (nU u))))), (0, 5, Cont.cell (AV.int IntKind.i64 (atD m (U (nU u))))), (9, 0, Cont.vec 5 28 (lenD m (U (nU u))) (nO (decL (U (nU u)))))], 73, 42⟩) (by kernel_rfl) (by kernel_rfl) ?_ ?_
      · exact ⟨i1, by unfold maxLen; omega⟩
      refine evC_go (dec := []) (ks := [(0, 2), (0, 3), (0, 4), (0, 5), (0, 6), (0, 7), (0, 8), (9, 0), (81, 0)]) (ps := [IsU m (nU u) ∧ m ≤ maxLen]) (s' := ⟨[(0, 2, Cont.cell (AV.bool false)), (0, 3, Cont.cell (AV.vs 9)), (0, 4, Cont.cell (AV.int IntKind.i64 (errD m (U (nU u))))), (0, 5, Cont.cell (AV.int IntKind.i64 (atD m (U (nU u))))), (0, 6, Cont.cell (AV.vs 81)), (0, 7, Cont.cell (AV.int IntKind.i64 (errD m (U (nU u))))), (0, 8, Cont.cell (AV.int IntKind.i64 (atD m (U (nU u))))), (9, 0, Cont.vec 5 28 (lenD m (U (nU u))) (nO (decL (U (nU u))))), (81, 0, Cont.vec 5 28 (lenD m (U (nU u))) (nO (decL (U (nU u)))))], 145, 42⟩) (by kernel_rfl) (by kernel_rfl) ?_ ?_
      · exact ⟨i1, by unfold maxLen; omega⟩
      refine evC_go (dec := []) (ks := [(0, 2)]) (ps := [(∀ (i : Nat), i < lenD m (U (nU u)) → nO (decL (U (nU u))) i = nO (O (nO (decL (U (nU u))))) i) ∧ (∀ (i : Nat), i < lenD m (U (nU u)) → nO (decL (U (nU u))) i = nO (O (nO (decL (U (nU u))))) i) ∧ lenD m (U (nU u)) ≤ maxLen ∧ lenD m (U (nU u)) ≤ maxLen]) (s' := ⟨[(0, 2, Cont.cell (AV.bool (bif bif bif sameF (lenD m (U (nU u))) (lenD m (U (nU u))) (O (nO (decL (U (nU u))))) (O (nO (decL (U (nU u))))) then errD m (U (nU u)) == errD m (U (nU u)) else false then atD m (U (nU u)) == atD m (U (nU u)) else false then true else false)))], 281, 42⟩) (by kernel_rfl) (by kernel_rfl) ?_ ?_
      · exact ⟨fun _ _ => rfl, fun _ _ => rfl, by unfold maxLen; omega, by unfold maxLen; omega⟩
      refine evC_ret ?_
      refine post_ret ?_
      refine ends_flat (vs := [AV.bool (bif bif bif sameF (lenD m (U (nU u))) (lenD m (U (nU u))) (O (nO (decL (U (nU u))))) (O (nO (decL (U (nU u))))) then errD m (U (nU u)) == errD m (U (nU u)) else false then atD m (U (nU u)) == atD m (U (nU u)) else false then true else false)]) (Nat.zero_lt_succ _) (by kernel_rfl) (flat_of _ (by kernel_rfl)) rfl ?_
      rw [O_nO]
      simp [oneAV, U_nU, sameF_self]
    · cases e
  · cases e
end Go.Eng.S22
