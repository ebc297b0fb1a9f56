/- Seat 22: the law of queues, walked. -/
import Derived.Test.YtdflehcijhejlaaEngX
import Derived.Test.YtdflehcijhejlaaS22H
set_option linter.unusedSimpArgs false
set_option linter.unusedVariables false
namespace Go.Eng.S22
open Go.Proofs Go.IntWalk
set_option maxRecDepth 10000

theorem same_self {n : Nat} {w : Os} : sameF n n w w = true := by
  unfold sameF
  simp [oEq_iff.2 rfl]
theorem same_of {n : Nat} {w x : Os} (h : ∀ i, i < n → w i = x i) : sameF n n w x = true := by
  unfold sameF
  rw [all_true (p := fun i => oEq (w i) (x i)) fun i hi => oEq_iff.2 (h i hi)]
  simp
theorem O_at {f : Nat → AV} {v : Os} {i : Nat} (h : f i = nO v i) : O f i = v i := by
  unfold O; rw [h]; rfl
theorem nO_at {f : Nat → AV} {v : Os} {i : Nat} (h : f i = nO v i) : f i = nO (O f) i := by
  rw [h]; unfold nO; rw [O_at h]
theorem all_step (w : Os) (x : Nat) : allO w (x + 1) = (allO w x && fO (w x)) := by
  unfold allO; rw [List.range_succ, List.all_append]; simp
theorem push_cat {x : Nat} {w : Os} {q : Od} {g : Nat → AV} (hg : g 0 = odv q) : ∀ y, y < x + 1 → catF x (nO w) g y = nO (pushW x w q) y := by
  intro y hy
  rcases Nat.lt_or_ge y x with h | h
  · have e : pushW x w q y = w y := by unfold pushW; rw [blt_yes h]; rfl
    unfold nO
    rw [e]
    exact catF_lt h
  · have : y = x := by omega
    subst this
    have e : pushW y w q y = q := by unfold pushW; rw [blt_no (Nat.lt_irrefl y)]; rfl
    unfold nO
    rw [e, catF_ge (Nat.le_refl _), Nat.sub_self, hg]
    rfl
def sLawP : Spec := fun args hr nb => match args with
  | [v, .agg [.int .i64 k, .int .i64 u, .int .i64 i, .int .i64 j, .int .i64 t]] => match sl 5 hr v with
    | some (n, f, rd) => some ⟨[(∀ i, i < n → f i = nO (O f) i) ∧ n ≤ maxLen], .bool true, rd, []⟩
    | none => none
  | _ => none
theorem law_push_ok : SpecOK Try.prog 9 sLawP := by
  refine spec_own (by kernel_rfl) T_ok (sget_cons push_ok (sget_cons refForm_ok (sget_cons same_ok (sget_cons awake_ok sget_nil)))) Try.func9 rfl rfl fun args hr nb out e => ?_
  unfold sLawP at e
  split at e
  · rename_i v k u i j t
    split at e
    · rename_i n f rd hs1
      injection e with e; subst e
      refine ⟨fun x hx => sl_rd hs1 x hx, false, [.rs 5 n false (nO (O f)), od k u i j t], rfl, fun hs => ?_⟩
      obtain ⟨h1, h4⟩ := hs _ List.mem_cons_self
      refine ⟨.cons _ _ _ _ (.slice _ _ _ _ _ hs1 (fun y hy => ⟨hy, by simp⟩) _ fun i hi => ⟨h1 i hi, (nO_flat _ i).has⟩) (.cons _ _ _ _ (.same _ _ (od_flat _ _ _ _ _).has) .nil), ?_⟩
      clear hs h1
      unfold maxLen at h4
      generalize O f = w
      unfold od
      refine evC_go0 (dec := []) (ks := [(0, 0), (0, 3), (0, 4), (1, 0), (1, 1), (1, 2), (1, 3), (1, 4), (1, 5)]) (s' := ⟨[(0, 0, Cont.cell (AV.rs 5 n false (nO w))), (0, 3, Cont.cell (AV.ptr 1 0)), (0, 4, Cont.cell (AV.bool false)), (1, 0, Cont.cell (AV.int IntKind.i64 k)), (1, 1, Cont.cell (AV.int IntKind.i64 u)), (1, 2, Cont.cell (AV.int IntKind.i64 i)), (1, 3, Cont.cell (AV.int IntKind.i64 j)), (1, 4, Cont.cell (AV.int IntKind.i64 t)), (1, 5, Cont.top)], 17, 100⟩) (by kernel_rfl) (by kernel_rfl) ?_
      refine evC_cutTo (ι := { m : Nat // m ≤ n ∧ m ≤ 12 }) (fun x => ⟨[(0, 0, .cell (.rs 5 x.1 false (nO w))), (0, 3, Cont.cell (AV.ptr 1 0)), (0, 4, Cont.cell (AV.bool false)), (1, 0, Cont.cell (AV.int IntKind.i64 k)), (1, 1, Cont.cell (AV.int IntKind.i64 u)), (1, 2, Cont.cell (AV.int IntKind.i64 i)), (1, 3, Cont.cell (AV.int IntKind.i64 j)), (1, 4, Cont.cell (AV.int IntKind.i64 t)), (1, 5, Cont.top)], 2, 100⟩) ?_ ?_
      · refine evC_go0 (dec := []) (ks := [(0, 0), (0, 3), (0, 4), (0, 12), (1, 0), (1, 1), (1, 2), (1, 3), (1, 4), (1, 5)]) (s' := ⟨[(0, 0, Cont.cell (AV.rs 5 n false (nO w))), (0, 3, Cont.cell (AV.ptr 1 0)), (0, 4, Cont.cell (AV.bool false)), (0, 12, Cont.cell (AV.bool (decide ((↑n : Int) > 12)))), (1, 0, Cont.cell (AV.int IntKind.i64 k)), (1, 1, Cont.cell (AV.int IntKind.i64 u)), (1, 2, Cont.cell (AV.int IntKind.i64 i)), (1, 3, Cont.cell (AV.int IntKind.i64 j)), (1, 4, Cont.cell (AV.int IntKind.i64 t)), (1, 5, Cont.top)], 41, 100⟩) (by kernel_rfl) (by kernel_rfl) ?_
        refine evC_if (q := decide ((↑n : Int) > 12)) (by kernel_rfl) (fun hc => ?_) (fun hc => ?_)
        · have hg : 12 < n := by have := of_decide_eq_true hc; omega
          refine evC_goL (dec := []) (ks := [(0, 0), (0, 3), (0, 4), (1, 0), (1, 1), (1, 2), (1, 3), (1, 4), (1, 5)]) (ps := [(0 : Int) ≤ (0 : Int), (0 : Int) ≤ (12 : Int), (12 : Int) ≤ (↑n : Int), (12 : Int) = (12 : Int), (5 : Nat) = (5 : Nat), false = true → true = true]) (s' := ⟨[(0, 0, Cont.cell (AV.rs 5 12 false fun i => nO w (Int.toNat 0 + i))), (0, 3, Cont.cell (AV.ptr 1 0)), (0, 4, Cont.cell (AV.bool false)), (1, 0, Cont.cell (AV.int IntKind.i64 k)), (1, 1, Cont.cell (AV.int IntKind.i64 u)), (1, 2, Cont.cell (AV.int IntKind.i64 i)), (1, 3, Cont.cell (AV.int IntKind.i64 j)), (1, 4, Cont.cell (AV.int IntKind.i64 t)), (1, 5, Cont.top)], 65, 100⟩) (by kernel_rfl) (by kernel_rfl) ?_ ?_
          · (simp only [All]; (repeat' apply And.intro) <;> (try intro _) <;> (try intro _) <;> (repeat' apply And.intro) <;> (try intro _) <;> (try intro _) <;> first | trivial | assumption | exact .inr trivial | exact .inr rfl | omega | rfl | exact ⟨_, rfl, rfl⟩ | exact ⟨rfl, rfl⟩ | exact ⟨fun _ => rfl, fun _ => rfl⟩ | (unfold maxLen; omega) | (unfold i64R; first | omega | decide) | decide)
          rw [nO_cut]
          refine cut_normal (⟨12, by omega, Nat.le_refl _⟩) (wk_go [1] rfl (by decide) rfl rfl ⟨⟨_, rfl, rfl⟩, ⟨_, rfl, rfl⟩, ⟨_, rfl, rfl⟩, ⟨_, rfl, rfl⟩, ⟨_, rfl, rfl⟩, ⟨_, rfl, rfl⟩, ⟨_, rfl, rfl⟩, ⟨_, rfl, rfl⟩, ⟨_, rfl, trivial⟩, trivial⟩)
        · have hg : n ≤ 12 := by have := of_decide_eq_false hc; omega
          refine evC_skip ?_
          refine cut_normal (⟨n, Nat.le_refl _, hg⟩) (wk_go [1] rfl (by decide) rfl rfl ⟨⟨_, rfl, rfl⟩, ⟨_, rfl, rfl⟩, ⟨_, rfl, rfl⟩, ⟨_, rfl, rfl⟩, ⟨_, rfl, rfl⟩, ⟨_, rfl, rfl⟩, ⟨_, rfl, rfl⟩, ⟨_, rfl, rfl⟩, ⟨_, rfl, trivial⟩, trivial⟩)
      rintro ⟨m, hm, hm12⟩
      refine evC_go (dec := []) (ks := [(0, 0), (0, 3), (0, 4), (0, 5), (1, 0), (1, 1), (1, 2), (1, 3), (1, 4), (1, 5), (18, 0)]) (ps := [((0 : Nat) + m) * (40 : Nat) ≤ (140737488355328 : Nat), (0 : Nat) + m ≤ maxLen, m = (0 : Nat) ∨ (5 : Nat) = (5 : Nat), (5 : Nat) = (5 : Nat), (28 : Nat) = (28 : Nat)]) (s' := ⟨[(0, 0, Cont.cell (AV.rs 5 m false (nO w))), (0, 3, Cont.cell (AV.ptr 1 0)), (0, 4, Cont.cell (AV.bool false)), (0, 5, Cont.cell (AV.vs 18)), (1, 0, Cont.cell (AV.int IntKind.i64 k)), (1, 1, Cont.cell (AV.int IntKind.i64 u)), (1, 2, Cont.cell (AV.int IntKind.i64 i)), (1, 3, Cont.cell (AV.int IntKind.i64 j)), (1, 4, Cont.cell (AV.int IntKind.i64 t)), (1, 5, Cont.top), (18, 0, Cont.vec 5 28 (0 + m) (catF 0 (pget []) (nO w)))], 34, 100⟩) (by kernel_rfl) (by kernel_rfl) ?_ ?_
      · (simp only [All]; (repeat' apply And.intro) <;> (try intro _) <;> (try intro _) <;> (repeat' apply And.intro) <;> (try intro _) <;> (try intro _) <;> first | trivial | assumption | exact .inr trivial | exact .inr rfl | omega | rfl | exact ⟨_, rfl, rfl⟩ | exact ⟨rfl, rfl⟩ | exact ⟨fun _ => rfl, fun _ => rfl⟩ | (unfold maxLen; omega) | (unfold i64R; first | omega | decide) | decide)
      refine evC_wk (s' := ⟨[(0, 0, Cont.cell (AV.rs 5 m false (nO w))), (0, 3, Cont.cell (AV.ptr 1 0)), (0, 4, Cont.cell (AV.bool false)), (0, 5, Cont.cell (AV.vs 2)), (1, 0, Cont.cell (AV.int IntKind.i64 k)), (1, 1, Cont.cell (AV.int IntKind.i64 u)), (1, 2, Cont.cell (AV.int IntKind.i64 i)), (1, 3, Cont.cell (AV.int IntKind.i64 j)), (1, 4, Cont.cell (AV.int IntKind.i64 t)), (1, 5, Cont.top), (2, 0, .vec 5 28 m (nO w))], 3, 100⟩) _ (wk_go [1, 18] rfl (by decide) rfl rfl ⟨⟨_, rfl, rfl⟩, ⟨_, rfl, rfl⟩, ⟨_, rfl, rfl⟩, ⟨_, rfl, rfl⟩, ⟨_, rfl, rfl⟩, ⟨_, rfl, rfl⟩, ⟨_, rfl, rfl⟩, ⟨_, rfl, rfl⟩, ⟨_, rfl, rfl⟩, ⟨_, rfl, trivial⟩, ⟨_, rfl, ?_⟩, trivial⟩) ?_
      · refine ⟨rfl, rfl, by omega, fun y hy => ?_⟩
        rw [catF_ge (Nat.zero_le _), Nat.sub_zero]
        exact (nO_flat w y).ren.symm
      refine evC_go (dec := []) (ks := [(0, 0), (0, 3), (0, 4), (0, 5), (0, 6), (0, 7), (1, 0), (1, 1), (1, 2), (1, 3), (1, 4), (1, 5), (2, 0), (19, 0)]) (ps := [(∀ (i : Nat), i < m → nO w i = nO (O (nO w)) i) ∧ m ≤ maxLen]) (s' := ⟨[(0, 0, Cont.cell (AV.rs 5 m false (nO w))), (0, 3, Cont.cell (AV.ptr 1 0)), (0, 4, Cont.cell (AV.bool false)), (0, 5, Cont.cell (AV.vs 2)), (0, 6, Cont.cell (AV.vs 19)), (0, 7, Cont.cell (AV.int IntKind.i64 (pushE m (O (nO w)) (k, u, i, j, t)))), (1, 0, Cont.cell (AV.int IntKind.i64 k)), (1, 1, Cont.cell (AV.int IntKind.i64 u)), (1, 2, Cont.cell (AV.int IntKind.i64 i)), (1, 3, Cont.cell (AV.int IntKind.i64 j)), (1, 4, Cont.cell (AV.int IntKind.i64 t)), (1, 5, Cont.top), (2, 0, Cont.vec 5 28 m (nO w)), (19, 0, Cont.vec 5 28 (pushN m (O (nO w)) (k, u, i, j, t)) (nO (pushW m (O (nO w)) (k, u, i, j, t))))], 67, 100⟩) (by kernel_rfl) (by kernel_rfl) ?_ ?_
      · exact ⟨fun _ _ => rfl, by unfold maxLen; omega⟩
      rw [O_nO]
      generalize hq : ((k, u, i, j, t) : Od) = q
      have e8 : decide ((m : Int) ≤ 8) = decide (m ≤ 8) := decide_eq_decide.2 (by omega)
      have ea : (bif decide ((m : Int) ≤ 8) then frm k u i j t else false) = (decide (m ≤ 8) && fO q) := by
        subst hq; rw [cond_and, e8]; rfl
      refine evC_go0 (dec := []) (ks := [(0, 0), (0, 3), (0, 4), (0, 5), (0, 6), (0, 7), (0, 8), (1, 0), (1, 1), (1, 2), (1, 3), (1, 4), (1, 5), (2, 0), (19, 0)]) (s' := ⟨[(0, 0, Cont.cell (AV.rs 5 m false (nO w))), (0, 3, Cont.cell (AV.ptr 1 0)), (0, 4, Cont.cell (AV.bool false)), (0, 5, Cont.cell (AV.vs 2)), (0, 6, Cont.cell (AV.vs 19)), (0, 7, Cont.cell (AV.int IntKind.i64 (pushE m w q))), (0, 8, Cont.cell (AV.bool (bif decide ((↑m : Int) ≤ 8) then frm k u i j t else false))), (1, 0, Cont.cell (AV.int IntKind.i64 k)), (1, 1, Cont.cell (AV.int IntKind.i64 u)), (1, 2, Cont.cell (AV.int IntKind.i64 i)), (1, 3, Cont.cell (AV.int IntKind.i64 j)), (1, 4, Cont.cell (AV.int IntKind.i64 t)), (1, 5, Cont.top), (2, 0, Cont.vec 5 28 m (nO w)), (19, 0, Cont.vec 5 28 (pushN m w q) (nO (pushW m w q)))], 131, 100⟩) (by kernel_rfl) (by kernel_rfl) ?_
      rw [ea]
      refine evC_seq ?_
      refine evC_go0 (dec := []) (ks := [(0, 0), (0, 3), (0, 4), (0, 5), (0, 6), (0, 7), (0, 8), (0, 9), (1, 0), (1, 1), (1, 2), (1, 3), (1, 4), (1, 5), (2, 0), (19, 0)]) (s' := ⟨[(0, 0, Cont.cell (AV.rs 5 m false (nO w))), (0, 3, Cont.cell (AV.ptr 1 0)), (0, 4, Cont.cell (AV.bool false)), (0, 5, Cont.cell (AV.vs 2)), (0, 6, Cont.cell (AV.vs 19)), (0, 7, Cont.cell (AV.int IntKind.i64 (pushE m w q))), (0, 8, Cont.cell (AV.bool (decide (m ≤ 8) && fO q))), (0, 9, Cont.cell (AV.int IntKind.i64 0)), (1, 0, Cont.cell (AV.int IntKind.i64 k)), (1, 1, Cont.cell (AV.int IntKind.i64 u)), (1, 2, Cont.cell (AV.int IntKind.i64 i)), (1, 3, Cont.cell (AV.int IntKind.i64 j)), (1, 4, Cont.cell (AV.int IntKind.i64 t)), (1, 5, Cont.top), (2, 0, Cont.vec 5 28 m (nO w)), (19, 0, Cont.vec 5 28 (pushN m w q) (nO (pushW m w q)))], 139, 100⟩) (by kernel_rfl) (by kernel_rfl) ?_
      refine evC_block ?_
      refine evC_loop (ι := { x : Nat // x ≤ m }) (fun x => ⟨[(0, 0, Cont.cell (AV.rs 5 m false (nO w))), (0, 3, Cont.cell (AV.ptr 1 0)), (0, 4, Cont.cell (AV.bool false)), (0, 5, Cont.cell (AV.vs 2)), (0, 6, Cont.cell (AV.vs 3)), (0, 7, Cont.cell (AV.int IntKind.i64 (pushE m w q))), (0, 8, .cell (.bool (decide (m ≤ 8) && fO q && allO w x.1))), (0, 9, .cell (.int .i64 (x.1 : Nat))), (1, 0, Cont.cell (AV.int IntKind.i64 k)), (1, 1, Cont.cell (AV.int IntKind.i64 u)), (1, 2, Cont.cell (AV.int IntKind.i64 i)), (1, 3, Cont.cell (AV.int IntKind.i64 j)), (1, 4, Cont.cell (AV.int IntKind.i64 t)), (1, 5, Cont.top), (2, 0, Cont.vec 5 28 m (nO w)), (3, 0, Cont.vec 5 28 (pushN m w q) (nO (pushW m w q)))], 4, 100⟩) (fun x => m - x.1) ⟨0, Nat.zero_le _⟩ (wk_go [1, 2, 19] rfl (by decide) rfl rfl ⟨⟨_, rfl, rfl⟩, ⟨_, rfl, rfl⟩, ⟨_, rfl, rfl⟩, ⟨_, rfl, rfl⟩, ⟨_, rfl, rfl⟩, ⟨_, rfl, rfl⟩, ⟨_, rfl, ?_⟩, ⟨_, rfl, rfl⟩, ⟨_, rfl, rfl⟩, ⟨_, rfl, rfl⟩, ⟨_, rfl, rfl⟩, ⟨_, rfl, rfl⟩, ⟨_, rfl, rfl⟩, ⟨_, rfl, trivial⟩, ⟨_, rfl, rfl, rfl, rfl, fun _ _ => rfl⟩, ⟨_, rfl, rfl, rfl, rfl, fun _ _ => rfl⟩, trivial⟩) ?_
      · refine congrArg AV.bool ?_
        simp [allO]
      rintro ⟨x, hx⟩
      refine evC_seq ?_
      refine evC_go0 (dec := []) (ks := [(0, 0), (0, 3), (0, 4), (0, 5), (0, 6), (0, 7), (0, 8), (0, 9), (0, 34), (1, 0), (1, 1), (1, 2), (1, 3), (1, 4), (1, 5), (2, 0), (3, 0)]) (s' := ⟨[(0, 0, Cont.cell (AV.rs 5 m false (nO w))), (0, 3, Cont.cell (AV.ptr 1 0)), (0, 4, Cont.cell (AV.bool false)), (0, 5, Cont.cell (AV.vs 2)), (0, 6, Cont.cell (AV.vs 3)), (0, 7, Cont.cell (AV.int IntKind.i64 (pushE m w q))), (0, 8, Cont.cell (AV.bool (decide (m ≤ 8) && fO q && allO w x))), (0, 9, Cont.cell (AV.int IntKind.i64 (↑x : Int))), (0, 34, Cont.cell (AV.bool (decide ((↑x : Int) < (↑m : Int))))), (1, 0, Cont.cell (AV.int IntKind.i64 k)), (1, 1, Cont.cell (AV.int IntKind.i64 u)), (1, 2, Cont.cell (AV.int IntKind.i64 i)), (1, 3, Cont.cell (AV.int IntKind.i64 j)), (1, 4, Cont.cell (AV.int IntKind.i64 t)), (1, 5, Cont.top), (2, 0, Cont.vec 5 28 m (nO w)), (3, 0, Cont.vec 5 28 (pushN m w q) (nO (pushW m w q)))], 36, 100⟩) (by kernel_rfl) (by kernel_rfl) ?_
      refine evC_if (q := decide ((↑x : Int) < (↑m : Int))) (by kernel_rfl) (fun hc => ?_) (fun hc => ?_)
      · have hlt : x < m := by have := of_decide_eq_true hc; omega
        clear hc
        refine evC_skip ?_
        refine then_normal ?_
        refine evC_seq ?_
        refine evC_block ?_
        refine evC_goL (dec := []) (ks := [(0, 0), (0, 3), (0, 4), (0, 5), (0, 6), (0, 7), (0, 8), (0, 9), (1, 0), (1, 1), (1, 2), (1, 3), (1, 4), (1, 5), (2, 0), (3, 0)]) (ps := [List.all [decide (m ≤ (8 : Nat)) && fO q && allO w x] id = true → (0 : Int) ≤ (↑x : Int), List.all [decide (m ≤ (8 : Nat)) && fO q && allO w x] id = true → (↑x : Int) < (↑m : Int), List.all [decide (m ≤ (8 : Nat)) && fO q && allO w x] id = true → (5 : Nat) = (5 : Nat)]) (s' := ⟨[(0, 0, Cont.cell (AV.rs 5 m false (nO w))), (0, 3, Cont.cell (AV.ptr 1 0)), (0, 4, Cont.cell (AV.bool false)), (0, 5, Cont.cell (AV.vs 2)), (0, 6, Cont.cell (AV.vs 3)), (0, 7, Cont.cell (AV.int IntKind.i64 (pushE m w q))), (0, 8, Cont.cell (AV.bool (bif decide (m ≤ 8) && fO q && allO w x then frm (Prod.fst (w x)) (Prod.fst (Prod.snd (w x))) (Prod.fst (Prod.snd (Prod.snd (w x)))) (Prod.fst (Prod.snd (Prod.snd (Prod.snd (w x))))) (Prod.snd (Prod.snd (Prod.snd (Prod.snd (w x))))) else false))), (0, 9, Cont.cell (AV.int IntKind.i64 (↑x : Int))), (1, 0, Cont.cell (AV.int IntKind.i64 k)), (1, 1, Cont.cell (AV.int IntKind.i64 u)), (1, 2, Cont.cell (AV.int IntKind.i64 i)), (1, 3, Cont.cell (AV.int IntKind.i64 j)), (1, 4, Cont.cell (AV.int IntKind.i64 t)), (1, 5, Cont.top), (2, 0, Cont.vec 5 28 m (nO w)), (3, 0, Cont.vec 5 28 (pushN m w q) (nO (pushW m w q)))], 108, 100⟩) (by kernel_rfl) (by kernel_rfl) ?_ ?_
        · (simp only [All]; (repeat' apply And.intro) <;> (try intro _) <;> (try intro _) <;> (repeat' apply And.intro) <;> (try intro _) <;> (try intro _) <;> first | trivial | assumption | exact .inr trivial | exact .inr rfl | omega | rfl | exact ⟨_, rfl, rfl⟩ | exact ⟨rfl, rfl⟩ | exact ⟨fun _ => rfl, fun _ => rfl⟩ | (unfold maxLen; omega) | (unfold i64R; first | omega | decide) | decide)
        refine block_normal ?_
        refine then_normal ?_
        refine evC_goL0 (dec := []) (ks := [(0, 0), (0, 3), (0, 4), (0, 5), (0, 6), (0, 7), (0, 8), (0, 9), (1, 0), (1, 1), (1, 2), (1, 3), (1, 4), (1, 5), (2, 0), (3, 0)]) (s' := ⟨[(0, 0, Cont.cell (AV.rs 5 m false (nO w))), (0, 3, Cont.cell (AV.ptr 1 0)), (0, 4, Cont.cell (AV.bool false)), (0, 5, Cont.cell (AV.vs 2)), (0, 6, Cont.cell (AV.vs 3)), (0, 7, Cont.cell (AV.int IntKind.i64 (pushE m w q))), (0, 8, Cont.cell (AV.bool (bif decide (m ≤ 8) && fO q && allO w x then frm (Prod.fst (w x)) (Prod.fst (Prod.snd (w x))) (Prod.fst (Prod.snd (Prod.snd (w x)))) (Prod.fst (Prod.snd (Prod.snd (Prod.snd (w x))))) (Prod.snd (Prod.snd (Prod.snd (Prod.snd (w x))))) else false))), (0, 9, Cont.cell (AV.int IntKind.i64 (IntKind.i64.wrap ((↑x : Int) + 1)))), (1, 0, Cont.cell (AV.int IntKind.i64 k)), (1, 1, Cont.cell (AV.int IntKind.i64 u)), (1, 2, Cont.cell (AV.int IntKind.i64 i)), (1, 3, Cont.cell (AV.int IntKind.i64 j)), (1, 4, Cont.cell (AV.int IntKind.i64 t)), (1, 5, Cont.top), (2, 0, Cont.vec 5 28 m (nO w)), (3, 0, Cont.vec 5 28 (pushN m w q) (nO (pushW m w q)))], 132, 100⟩) (by kernel_rfl) (by kernel_rfl) ?_
        rw [wrap_add_one hlt (by omega)]
        refine round_normal (⟨x + 1, hlt⟩) (wk_go [1, 2, 3] rfl (by decide) rfl rfl ⟨⟨_, rfl, rfl⟩, ⟨_, rfl, rfl⟩, ⟨_, rfl, rfl⟩, ⟨_, rfl, rfl⟩, ⟨_, rfl, rfl⟩, ⟨_, rfl, rfl⟩, ⟨_, rfl, ?_⟩, ⟨_, rfl, rfl⟩, ⟨_, rfl, rfl⟩, ⟨_, rfl, rfl⟩, ⟨_, rfl, rfl⟩, ⟨_, rfl, rfl⟩, ⟨_, rfl, rfl⟩, ⟨_, rfl, trivial⟩, ⟨_, rfl, ⟨rfl, rfl, rfl, fun _ _ => rfl⟩⟩, ⟨_, rfl, ⟨rfl, rfl, rfl, fun _ _ => rfl⟩⟩, trivial⟩) ?_
        · refine congrArg AV.bool ?_
          show _ = (decide (m ≤ 8) && fO q && allO w (x + 1))
          rw [cond_and, all_step, ← Bool.and_assoc]; rfl
        · show m - (x + 1) < m - x; omega
      · have hlt : x = m := by have := of_decide_eq_false hc; omega
        subst hlt
        clear hc
        have hl : pushN x w q ≤ 9 := by
          unfold pushN
          by_cases h : x ≤ 8
          · cases (decide (x ≤ 8) && fO q && allO w x) <;> cases q.1 == 0 <;> cases x == 8 <;> simp <;> omega
          · simp [h]
        refine evC_exit ?_
        refine then_exit ?_
        refine round_exit ?_
        refine block_exit ?_
        refine then_normal ?_
        refine evC_seq ?_
        refine evC_go (dec := []) (ks := [(0, 0), (0, 3), (0, 4), (0, 5), (0, 6), (0, 7), (0, 8), (0, 48), (1, 0), (1, 1), (1, 2), (1, 3), (1, 4), (1, 5), (2, 0), (3, 0)]) (ps := [(∀ (i : Nat), i < x → nO w i = nO (O (nO w)) i) ∧ (∀ (i : Nat), i < x → nO w i = nO (O (nO w)) i) ∧ x ≤ maxLen ∧ x ≤ maxLen]) (s' := ⟨[(0, 0, Cont.cell (AV.rs 5 x false (nO w))), (0, 3, Cont.cell (AV.ptr 1 0)), (0, 4, Cont.cell (AV.bool false)), (0, 5, Cont.cell (AV.vs 2)), (0, 6, Cont.cell (AV.vs 3)), (0, 7, Cont.cell (AV.int IntKind.i64 (pushE x w q))), (0, 8, Cont.cell (AV.bool (decide (x ≤ 8) && fO q && allO w x))), (0, 48, Cont.cell (AV.bool !sameF x x (O (nO w)) (O (nO w)))), (1, 0, Cont.cell (AV.int IntKind.i64 k)), (1, 1, Cont.cell (AV.int IntKind.i64 u)), (1, 2, Cont.cell (AV.int IntKind.i64 i)), (1, 3, Cont.cell (AV.int IntKind.i64 j)), (1, 4, Cont.cell (AV.int IntKind.i64 t)), (1, 5, Cont.top), (2, 0, Cont.vec 5 28 x (nO w)), (3, 0, Cont.vec 5 28 (pushN x w q) (nO (pushW x w q)))], 68, 100⟩) (by kernel_rfl) (by kernel_rfl) ?_ ?_
        · exact ⟨fun _ _ => rfl, fun _ _ => rfl, by unfold maxLen; omega, by unfold maxLen; omega⟩
        rw [O_nO]
        refine evC_if (q := !sameF x x w w) (by kernel_rfl) (fun hc => ?_) (fun hc => ?_)
        · exfalso
          rw [same_self] at hc; cases hc
        clear hc
        refine evC_skip ?_
        refine then_normal ?_
        refine evC_seq ?_
        refine evC_go0 (dec := []) (ks := [(0, 0), (0, 3), (0, 4), (0, 5), (0, 6), (0, 7), (0, 50), (1, 0), (1, 1), (1, 2), (1, 3), (1, 4), (1, 5), (2, 0), (3, 0)]) (s' := ⟨[(0, 0, Cont.cell (AV.rs 5 x false (nO w))), (0, 3, Cont.cell (AV.ptr 1 0)), (0, 4, Cont.cell (AV.bool false)), (0, 5, Cont.cell (AV.vs 2)), (0, 6, Cont.cell (AV.vs 3)), (0, 7, Cont.cell (AV.int IntKind.i64 (pushE x w q))), (0, 50, Cont.cell (AV.bool !(decide (x ≤ 8) && fO q && allO w x))), (1, 0, Cont.cell (AV.int IntKind.i64 k)), (1, 1, Cont.cell (AV.int IntKind.i64 u)), (1, 2, Cont.cell (AV.int IntKind.i64 i)), (1, 3, Cont.cell (AV.int IntKind.i64 j)), (1, 4, Cont.cell (AV.int IntKind.i64 t)), (1, 5, Cont.top), (2, 0, Cont.vec 5 28 x (nO w)), (3, 0, Cont.vec 5 28 (pushN x w q) (nO (pushW x w q)))], 84, 100⟩) (by kernel_rfl) (by kernel_rfl) ?_
        refine evC_if (q := !(decide (x ≤ 8) && fO q && allO w x)) (by kernel_rfl) (fun hc => ?_) (fun hc => ?_)
        · have hn : (decide (x ≤ 8) && fO q && allO w x) = false := (Bool.not_eq_true' _).mp hc
          have e1 : pushE x w q = 1 := by unfold pushE; rw [hn]; rfl
          have e2 : pushN x w q = 0 := by unfold pushN; rw [hn]; rfl
          refine evC_go0 (dec := []) (ks := [(0, 0), (0, 3), (0, 4), (0, 5), (0, 6), (0, 7), (1, 0), (1, 1), (1, 2), (1, 3), (1, 4), (1, 5), (2, 0), (3, 0)]) (s' := ⟨[(0, 0, Cont.cell (AV.rs 5 x false (nO w))), (0, 3, Cont.cell (AV.ptr 1 0)), (0, 4, Cont.cell (AV.bool (bif bif (↑(pushN x w q) : Int) == 0 then pushE x w q == 1 else false then true else false))), (0, 5, Cont.cell (AV.vs 2)), (0, 6, Cont.cell (AV.vs 3)), (0, 7, Cont.cell (AV.int IntKind.i64 (pushE x w q))), (1, 0, Cont.cell (AV.int IntKind.i64 k)), (1, 1, Cont.cell (AV.int IntKind.i64 u)), (1, 2, Cont.cell (AV.int IntKind.i64 i)), (1, 3, Cont.cell (AV.int IntKind.i64 j)), (1, 4, Cont.cell (AV.int IntKind.i64 t)), (1, 5, Cont.top), (2, 0, Cont.vec 5 28 x (nO w)), (3, 0, Cont.vec 5 28 (pushN x w q) (nO (pushW x w q)))], 172, 100⟩) (by kernel_rfl) (by kernel_rfl) ?_
          refine evC_ret ?_
          refine then_ret ?_
          refine post_ret ?_
          refine ends_flat (vs := [AV.bool (bif bif (↑(pushN x w q) : Int) == 0 then pushE x w q == 1 else false then true else false)]) (Nat.zero_lt_succ _) (by kernel_rfl) (flat_of _ (by kernel_rfl)) rfl ?_
          rw [e1, e2]; rfl
        · have hn : (decide (x ≤ 8) && fO q && allO w x) = true := (Bool.not_eq_false' _).mp hc
          have h8 : x ≤ 8 := by simp at hn; exact hn.1.1
          clear hc
          refine evC_skip ?_
          refine then_normal ?_
          refine evC_seq ?_
          refine evC_go0 (dec := []) (ks := [(0, 0), (0, 3), (0, 4), (0, 5), (0, 6), (0, 7), (0, 63), (1, 0), (1, 1), (1, 2), (1, 3), (1, 4), (1, 5), (2, 0), (3, 0)]) (s' := ⟨[(0, 0, Cont.cell (AV.rs 5 x false (nO w))), (0, 3, Cont.cell (AV.ptr 1 0)), (0, 4, Cont.cell (AV.bool false)), (0, 5, Cont.cell (AV.vs 2)), (0, 6, Cont.cell (AV.vs 3)), (0, 7, Cont.cell (AV.int IntKind.i64 (pushE x w q))), (0, 63, Cont.cell (AV.bool (k == 0))), (1, 0, Cont.cell (AV.int IntKind.i64 k)), (1, 1, Cont.cell (AV.int IntKind.i64 u)), (1, 2, Cont.cell (AV.int IntKind.i64 i)), (1, 3, Cont.cell (AV.int IntKind.i64 j)), (1, 4, Cont.cell (AV.int IntKind.i64 t)), (1, 5, Cont.top), (2, 0, Cont.vec 5 28 x (nO w)), (3, 0, Cont.vec 5 28 (pushN x w q) (nO (pushW x w q)))], 108, 100⟩) (by kernel_rfl) (by kernel_rfl) ?_
          refine evC_if (q := k == 0) (by kernel_rfl) (fun hc => ?_) (fun hc => ?_)
          · have h0 : (q.1 == 0) = true := by subst hq; exact hc
            have e1 : pushE x w q = 0 := by unfold pushE; rw [hn, h0]; rfl
            have e2 : pushN x w q = 0 := by unfold pushN; rw [hn, h0]; rfl
            refine evC_go0 (dec := []) (ks := [(0, 0), (0, 3), (0, 4), (0, 5), (0, 6), (0, 7), (1, 0), (1, 1), (1, 2), (1, 3), (1, 4), (1, 5), (2, 0), (3, 0)]) (s' := ⟨[(0, 0, Cont.cell (AV.rs 5 x false (nO w))), (0, 3, Cont.cell (AV.ptr 1 0)), (0, 4, Cont.cell (AV.bool (bif bif (↑(pushN x w q) : Int) == 0 then pushE x w q == 0 else false then true else false))), (0, 5, Cont.cell (AV.vs 2)), (0, 6, Cont.cell (AV.vs 3)), (0, 7, Cont.cell (AV.int IntKind.i64 (pushE x w q))), (1, 0, Cont.cell (AV.int IntKind.i64 k)), (1, 1, Cont.cell (AV.int IntKind.i64 u)), (1, 2, Cont.cell (AV.int IntKind.i64 i)), (1, 3, Cont.cell (AV.int IntKind.i64 j)), (1, 4, Cont.cell (AV.int IntKind.i64 t)), (1, 5, Cont.top), (2, 0, Cont.vec 5 28 x (nO w)), (3, 0, Cont.vec 5 28 (pushN x w q) (nO (pushW x w q)))], 196, 100⟩) (by kernel_rfl) (by kernel_rfl) ?_
            refine evC_ret ?_
            refine then_ret ?_
            refine post_ret ?_
            refine ends_flat (vs := [AV.bool (bif bif (↑(pushN x w q) : Int) == 0 then pushE x w q == 0 else false then true else false)]) (Nat.zero_lt_succ _) (by kernel_rfl) (flat_of _ (by kernel_rfl)) rfl ?_
            rw [e1, e2]; rfl
          · have h0 : (q.1 == 0) = false := by subst hq; exact hc
            clear hc
            refine evC_skip ?_
            refine then_normal ?_
            refine evC_seq ?_
            refine evC_go0 (dec := []) (ks := [(0, 3), (0, 4), (0, 5), (0, 6), (0, 7), (0, 76), (1, 0), (1, 1), (1, 2), (1, 3), (1, 4), (1, 5), (2, 0), (3, 0)]) (s' := ⟨[(0, 3, Cont.cell (AV.ptr 1 0)), (0, 4, Cont.cell (AV.bool false)), (0, 5, Cont.cell (AV.vs 2)), (0, 6, Cont.cell (AV.vs 3)), (0, 7, Cont.cell (AV.int IntKind.i64 (pushE x w q))), (0, 76, Cont.cell (AV.bool ((↑x : Int) == 8))), (1, 0, Cont.cell (AV.int IntKind.i64 k)), (1, 1, Cont.cell (AV.int IntKind.i64 u)), (1, 2, Cont.cell (AV.int IntKind.i64 i)), (1, 3, Cont.cell (AV.int IntKind.i64 j)), (1, 4, Cont.cell (AV.int IntKind.i64 t)), (1, 5, Cont.top), (2, 0, Cont.vec 5 28 x (nO w)), (3, 0, Cont.vec 5 28 (pushN x w q) (nO (pushW x w q)))], 132, 100⟩) (by kernel_rfl) (by kernel_rfl) ?_
            refine evC_if (q := (↑x : Int) == 8) (by kernel_rfl) (fun hc => ?_) (fun hc => ?_)
            · have hx8 : (x == 8) = true := by
                have : (x : Int) = 8 := by simpa using hc
                have : x = 8 := by omega
                simp [this]
              have e1 : pushE x w q = 5 := by unfold pushE; rw [hn, h0, hx8]; rfl
              have e2 : pushN x w q = 0 := by unfold pushN; rw [hn, h0, hx8]; rfl
              refine evC_go0 (dec := []) (ks := [(0, 3), (0, 4), (0, 5), (0, 6), (0, 7), (1, 0), (1, 1), (1, 2), (1, 3), (1, 4), (1, 5), (2, 0), (3, 0)]) (s' := ⟨[(0, 3, Cont.cell (AV.ptr 1 0)), (0, 4, Cont.cell (AV.bool (bif bif (↑(pushN x w q) : Int) == 0 then pushE x w q == 5 else false then true else false))), (0, 5, Cont.cell (AV.vs 2)), (0, 6, Cont.cell (AV.vs 3)), (0, 7, Cont.cell (AV.int IntKind.i64 (pushE x w q))), (1, 0, Cont.cell (AV.int IntKind.i64 k)), (1, 1, Cont.cell (AV.int IntKind.i64 u)), (1, 2, Cont.cell (AV.int IntKind.i64 i)), (1, 3, Cont.cell (AV.int IntKind.i64 j)), (1, 4, Cont.cell (AV.int IntKind.i64 t)), (1, 5, Cont.top), (2, 0, Cont.vec 5 28 x (nO w)), (3, 0, Cont.vec 5 28 (pushN x w q) (nO (pushW x w q)))], 220, 100⟩) (by kernel_rfl) (by kernel_rfl) ?_
              refine evC_ret ?_
              refine then_ret ?_
              refine post_ret ?_
              refine ends_flat (vs := [AV.bool (bif bif (↑(pushN x w q) : Int) == 0 then pushE x w q == 5 else false then true else false)]) (Nat.zero_lt_succ _) (by kernel_rfl) (flat_of _ (by kernel_rfl)) rfl ?_
              rw [e1, e2]; rfl
            · have hx8 : (x == 8) = false := by
                have h : ¬ (x : Int) = 8 := by simpa using hc
                have : ¬ x = 8 := by omega
                simp [this]
              have e1 : pushE x w q = 0 := by unfold pushE; rw [hn, h0, hx8]; rfl
              have e2 : pushN x w q = x + 1 := by unfold pushN; rw [hn, h0, hx8]; rfl
              rw [e1, e2]
              clear hc
              have hcat := push_cat (x := x) (w := w) (q := q) (g := pget [(0, AV.agg [.int .i64 k, .int .i64 u, .int .i64 i, .int .i64 j, .int .i64 t])]) (by subst hq; rfl)
              refine evC_skip ?_
              refine then_normal ?_
              refine evC_go (dec := []) (ks := [(0, 4)]) (ps := [(x + (1 : Nat)) * (40 : Nat) ≤ (140737488355328 : Nat), x + (1 : Nat) ≤ maxLen, (1 : Nat) = (0 : Nat) ∨ (5 : Nat) = (5 : Nat), (5 : Nat) = (5 : Nat), (28 : Nat) = (28 : Nat), (∀ (i : Nat), i < x + (1 : Nat) → nO (pushW x w q) i = nO (O (nO (pushW x w q))) i) ∧ (∀ (i_1 : Nat), i_1 < x + (1 : Nat) → catF x (nO w) (pget [((0 : Nat), AV.agg [AV.int IntKind.i64 k, AV.int IntKind.i64 u, AV.int IntKind.i64 i, AV.int IntKind.i64 j, AV.int IntKind.i64 t])]) i_1 = nO (O (catF x (nO w) (pget [((0 : Nat), AV.agg [AV.int IntKind.i64 k, AV.int IntKind.i64 u, AV.int IntKind.i64 i, AV.int IntKind.i64 j, AV.int IntKind.i64 t])]))) i_1) ∧ x + (1 : Nat) ≤ maxLen ∧ x + (1 : Nat) ≤ maxLen]) (s' := ⟨[(0, 4, Cont.cell (AV.bool (bif bif sameF (x + 1) (x + 1) (O (nO (pushW x w q))) (O (catF x (nO w) (pget [(0, AV.agg [AV.int IntKind.i64 k, AV.int IntKind.i64 u, AV.int IntKind.i64 i, AV.int IntKind.i64 j, AV.int IntKind.i64 t])]))) then 0 == 0 else false then true else false)))], 244, 100⟩) (by kernel_rfl) (by kernel_rfl) ?_ ?_
              · exact ⟨by omega, by unfold maxLen; omega, .inr rfl, rfl, rfl, fun _ _ => rfl, fun y hy => nO_at (hcat y hy), by unfold maxLen; omega, by unfold maxLen; omega⟩
              refine evC_ret ?_
              refine post_ret ?_
              refine ends_flat (vs := [AV.bool (bif bif sameF (x + 1) (x + 1) (O (nO (pushW x w q))) (O (catF x (nO w) (pget [(0, AV.agg [AV.int IntKind.i64 k, AV.int IntKind.i64 u, AV.int IntKind.i64 i, AV.int IntKind.i64 j, AV.int IntKind.i64 t])]))) then 0 == 0 else false then true else false)]) (Nat.zero_lt_succ _) (by kernel_rfl) (flat_of _ (by kernel_rfl)) rfl ?_
              rw [O_nO, same_of fun y hy => (O_at (hcat y hy)).symm]; rfl
    · cases e
  · cases e
end Go.Eng.S22
