/- Seat 12: an index as the statements make it, and the chapter's examples, walked. -/
import Derived.Test.YtkcigkoocimnlaaEngX
import Derived.Test.YtkcigkoocimnlaaS12V
import Derived.Test.YtkcigkoocimnlaaS12K
set_option linter.unusedSimpArgs false
set_option linter.unusedVariables false
namespace Go.Eng.S12
open Go.Proofs Go.IntWalk
set_option maxRecDepth 10000

theorem spF_set (L : List Sp) {i : Nat} (hi : i < L.length) (s : Sp) (j : Nat) : (bif j == i then AV.agg [.int .i64 s.1, .int .i64 s.2] else spF L j) = spF (L.set i s) j := by
  unfold spF
  rw [List.getD_eq_getElem?_getD, List.getD_eq_getElem?_getD, List.getElem?_set]
  by_cases h : j = i
  · subst h
    rw [beq_self_eq_true, cond_true, if_pos rfl, if_pos hi]
    rfl
  · have hb : (j == i) = false := by simpa using h
    rw [hb, cond_false, if_neg (fun e => h e.symm)]
def sMadeG : Spec := fun args _ nb => match args with
  | [.rs 2 n false f] => some ⟨[(∀ i, i < n → f i = spF (spL n f) i) ∧ n ≤ 258, mayB (spL n f) = true], .tup [.ptr nb 0, .bool true], [], icon nb (nb + 1) (spL n f)⟩
  | _ => none
def sMadeB : Spec := fun args _ nb => match args with
  | [.rs 2 n false f] => some ⟨[(∀ i, i < n → f i = spF (spL n f) i) ∧ n ≤ 258, mayB (spL n f) = false], .tup [.nilp, .bool true], [], []⟩
  | _ => none
theorem madeG_ok : SpecOK Try.prog 8 sMadeG := by
  refine spec_own (by kernel_rfl) T_ok (sget_cons newVG_ok (sget_cons refMay_ok sget_nil)) Try.func8 rfl rfl fun args hr nb out e => ?_
  unfold sMadeG at e
  split at e
  · rename_i n f
    injection e with e; subst e
    refine ⟨(fun _ h => nomatch h), true, [.rs 2 n false (spF (spL n f))], rfl, fun hs => ?_⟩
    obtain ⟨h1, h2⟩ := hs _ List.mem_cons_self
    have h3 := hs _ (List.mem_cons_of_mem _ List.mem_cons_self)
    refine ⟨.cons _ _ _ _ (.rs _ _ _ _ _ _ fun i hi => ⟨h1 i hi, (spF_flat _ i).has⟩) .nil, ?_⟩
    clear hs h1
    have hn := spL_len n f
    generalize spL n f = l at *
    subst hn
    refine evC_go0 (dec := []) (ks := [(0, 0), (0, 2), (0, 3)]) (s' := ⟨[(0, 0, Cont.cell (AV.rs 2 (List.length l) false (spF l))), (0, 2, Cont.cell AV.nilp), (0, 3, Cont.cell (AV.bool false))], 65, 42⟩) (by kernel_rfl) (by kernel_rfl) ?_
    refine evC_go (dec := []) (ks := [(0, 0), (0, 2), (0, 3), (0, 4), (129, 0)]) (ps := [((0 : Nat) + List.length l) * (16 : Nat) ≤ (140737488355328 : Nat), (0 : Nat) + List.length l ≤ maxLen, List.length l = (0 : Nat) ∨ (2 : Nat) = (2 : Nat), (2 : Nat) = (2 : Nat), (46 : Nat) = (46 : Nat)]) (s' := ⟨[(0, 0, Cont.cell (AV.rs 2 (List.length l) false (spF l))), (0, 2, Cont.cell AV.nilp), (0, 3, Cont.cell (AV.bool false)), (0, 4, Cont.cell (AV.vs 129)), (129, 0, Cont.vec 2 46 (0 + List.length l) (catF 0 (pget []) (spF l)))], 193, 42⟩) (by kernel_rfl) (by kernel_rfl) ?_ ?_
    · (simp only [All]; (repeat' apply And.intro) <;> (try intro _) <;> (try intro _) <;> (repeat' apply And.intro) <;> (try intro _) <;> (try intro _) <;> first | trivial | assumption | exact .inr trivial | exact .inr rfl | omega | rfl | exact ⟨_, rfl, rfl⟩ | exact ⟨rfl, rfl⟩ | exact ⟨fun _ => rfl, fun _ => rfl⟩ | (unfold maxLen; omega) | (unfold i64R; first | omega | decide) | decide)
    refine evC_wk (s' := ⟨[(0, 0, Cont.cell (AV.rs 2 (List.length l) false (spF l))), (0, 2, Cont.cell AV.nilp), (0, 3, Cont.cell (AV.bool false)), (0, 4, Cont.cell (AV.vs 1)), (1, 0, .vec 2 46 (List.length l) (spF l))], 2, 42⟩) _ (wk_go [129] rfl (by decide) rfl rfl ⟨⟨_, rfl, rfl⟩, ⟨_, rfl, rfl⟩, ⟨_, rfl, rfl⟩, ⟨_, rfl, rfl⟩, ⟨_, rfl, ?_⟩, trivial⟩) ?_
    · exact ⟨rfl, rfl, Nat.zero_add _, fun i hi => rfl⟩
    refine evC_go (dec := []) (ks := [(0, 0), (0, 2), (0, 3), (0, 4), (0, 5), (0, 6), (1, 0), (34, 0), (34, 1), (34, 2), (35, 0)]) (ps := [(0 : Nat) < (1 : Nat), (∀ (i : Nat), i < List.length l → spF l i = spF (spL (List.length l) (spF l)) i) ∧ List.length l ≤ (300 : Nat), mayB (spL (List.length l) (spF l)) = true]) (s' := ⟨[(0, 0, Cont.cell (AV.rs 2 (List.length l) false (spF l))), (0, 2, Cont.cell AV.nilp), (0, 3, Cont.cell (AV.bool false)), (0, 4, Cont.cell (AV.vs 1)), (0, 5, Cont.cell (AV.ptr 34 0)), (0, 6, Cont.cell (AV.int IntKind.i64 0)), (1, 0, Cont.vec 2 46 (List.length l) (spF l)), (34, 0, Cont.cell (AV.rs 2 (List.length (spL (List.length l) (spF l))) false (spF (spL (List.length l) (spF l))))), (34, 1, Cont.cell (AV.mp 35)), (34, 2, Cont.top), (35, 0, Cont.map 2 (qmap (sqN (spL (List.length l) (spF l)) (List.length (spL (List.length l) (spF l))))))], 226, 42⟩) (by kernel_rfl) (by kernel_rfl) ?_ ?_
    · exact ⟨by decide, ⟨fun i hi => by rw [spL_spF], by omega⟩, by rw [spL_spF]; exact h3⟩
    rw [spL_spF]
    refine evC_seq ?_
    refine evC_go0 (dec := []) (ks := [(0, 0), (0, 2), (0, 3), (0, 4), (0, 5), (0, 6), (0, 7), (1, 0), (34, 0), (34, 1), (34, 2), (35, 0)]) (s' := ⟨[(0, 0, Cont.cell (AV.rs 2 (List.length l) false (spF l))), (0, 2, Cont.cell AV.nilp), (0, 3, Cont.cell (AV.bool false)), (0, 4, Cont.cell (AV.vs 1)), (0, 5, Cont.cell (AV.ptr 34 0)), (0, 6, Cont.cell (AV.int IntKind.i64 0)), (0, 7, Cont.cell (AV.int IntKind.i64 0)), (1, 0, Cont.vec 2 46 (List.length l) (spF l)), (34, 0, Cont.cell (AV.rs 2 (List.length l) false (spF l))), (34, 1, Cont.cell (AV.mp 35)), (34, 2, Cont.top), (35, 0, Cont.map 2 (qmap (sqN l (List.length l))))], 258, 42⟩) (by kernel_rfl) (by kernel_rfl) ?_
    refine evC_block ?_
    refine evC_loop (ι := { q : Nat × List Sp // q.1 ≤ l.length ∧ q.2.length = l.length }) (fun q => ⟨[(0, 0, Cont.cell (AV.rs 2 (List.length l) false (spF l))), (0, 2, Cont.cell AV.nilp), (0, 3, Cont.cell (AV.bool false)), (0, 4, Cont.cell (AV.vs 1)), (0, 5, Cont.cell (AV.ptr 2 0)), (0, 6, Cont.cell (AV.int IntKind.i64 0)), (0, 7, .cell (.int .i64 (q.1.1 : Nat))), (1, 0, .vec 2 46 l.length (spF q.1.2)), (2, 0, Cont.cell (AV.rs 2 (List.length l) false (spF l))), (2, 1, Cont.cell (AV.mp 3)), (2, 2, Cont.top), (3, 0, Cont.map 2 (qmap (sqN l (List.length l))))], 4, 42⟩) (fun q => l.length - q.1.1) ⟨(0, l), Nat.zero_le _, rfl⟩ (wk_go [1, 34, 35] rfl (by decide) rfl rfl ⟨⟨_, rfl, rfl⟩, ⟨_, rfl, rfl⟩, ⟨_, rfl, rfl⟩, ⟨_, rfl, rfl⟩, ⟨_, rfl, rfl⟩, ⟨_, rfl, rfl⟩, ⟨_, rfl, rfl⟩, ⟨_, rfl, ⟨rfl, rfl, rfl, fun _ _ => rfl⟩⟩, ⟨_, rfl, rfl⟩, ⟨_, rfl, rfl⟩, ⟨_, rfl, trivial⟩, ⟨_, rfl, Go.Eng.S12.cw_qmap _⟩, trivial⟩) ?_
    rintro ⟨⟨i, L⟩, hi, hL⟩
    have hi : i ≤ l.length := hi
    have hL : L.length = l.length := hL
    refine evC_seq ?_
    refine evC_go0 (dec := []) (ks := [(0, 0), (0, 2), (0, 3), (0, 4), (0, 5), (0, 6), (0, 7), (0, 19), (1, 0), (2, 0), (2, 1), (2, 2), (3, 0)]) (s' := ⟨[(0, 0, Cont.cell (AV.rs 2 (List.length l) false (spF l))), (0, 2, Cont.cell AV.nilp), (0, 3, Cont.cell (AV.bool false)), (0, 4, Cont.cell (AV.vs 1)), (0, 5, Cont.cell (AV.ptr 2 0)), (0, 6, Cont.cell (AV.int IntKind.i64 0)), (0, 7, Cont.cell (AV.int IntKind.i64 (↑i : Int))), (0, 19, Cont.cell (AV.bool (decide ((↑i : Int) < (↑(List.length l) : Int))))), (1, 0, Cont.vec 2 46 (List.length l) (spF L)), (2, 0, Cont.cell (AV.rs 2 (List.length l) false (spF l))), (2, 1, Cont.cell (AV.mp 3)), (2, 2, Cont.top), (3, 0, Cont.map 2 (qmap (sqN l (List.length l))))], 132, 42⟩) (by kernel_rfl) (by kernel_rfl) ?_
    refine evC_if (q := decide ((↑i : Int) < (↑(List.length l) : Int))) (by kernel_rfl) (fun hc => ?_) (fun hc => ?_)
    · have hlt : i < l.length := by have := of_decide_eq_true hc; omega
      clear hc
      refine evC_skip ?_
      refine then_normal ?_
      refine evC_seq ?_
      refine evC_block ?_
      refine evC_goL (dec := []) (ks := [(0, 0), (0, 2), (0, 3), (0, 4), (0, 5), (0, 6), (0, 7), (1, 0), (2, 0), (2, 1), (2, 2), (3, 0)]) (ps := [(0 : Int) ≤ (↑i : Int), (↑i : Int) < (↑(List.length l) : Int), (2 : Nat) = (2 : Nat), (0 : Int) ≤ (↑i : Int), (↑i : Int) < (↑(List.length l) : Int), (2 : Nat) = (2 : Nat), widthC (AV.cells (AV.agg ([AV.int IntKind.i64 (-1 : Int)] ++ AV.cells (AV.int IntKind.i64 (-1 : Int)) ++ []))) = (2 : Nat)]) (s' := ⟨[(0, 0, Cont.cell (AV.rs 2 (List.length l) false (spF l))), (0, 2, Cont.cell AV.nilp), (0, 3, Cont.cell (AV.bool false)), (0, 4, Cont.cell (AV.vs 1)), (0, 5, Cont.cell (AV.ptr 2 0)), (0, 6, Cont.cell (AV.int IntKind.i64 0)), (0, 7, Cont.cell (AV.int IntKind.i64 (↑i : Int))), (1, 0, Cont.vec 2 46 (List.length l) fun j => bif j == i then AV.agg (AV.cells (AV.agg ([AV.int IntKind.i64 (-1)] ++ AV.cells (AV.int IntKind.i64 (-1)) ++ []))) else spF L j), (2, 0, Cont.cell (AV.rs 2 (List.length l) false (spF l))), (2, 1, Cont.cell (AV.mp 3)), (2, 2, Cont.top), (3, 0, Cont.map 2 (qmap (sqN l (List.length l))))], 292, 42⟩) (by kernel_rfl) (by kernel_rfl) ?_ ?_
      · (simp only [All]; (repeat' apply And.intro) <;> (try intro _) <;> (try intro _) <;> (repeat' apply And.intro) <;> (try intro _) <;> (try intro _) <;> first | trivial | assumption | exact .inr trivial | exact .inr rfl | omega | rfl | exact ⟨_, rfl, rfl⟩ | exact ⟨rfl, rfl⟩ | exact ⟨fun _ => rfl, fun _ => rfl⟩ | (unfold maxLen; omega) | (unfold i64R; first | omega | decide) | decide)
      refine block_normal ?_
      refine then_normal ?_
      refine evC_goL0 (dec := []) (ks := [(0, 0), (0, 2), (0, 3), (0, 4), (0, 5), (0, 6), (0, 7), (1, 0), (2, 0), (2, 1), (2, 2), (3, 0)]) (s' := ⟨[(0, 0, Cont.cell (AV.rs 2 (List.length l) false (spF l))), (0, 2, Cont.cell AV.nilp), (0, 3, Cont.cell (AV.bool false)), (0, 4, Cont.cell (AV.vs 1)), (0, 5, Cont.cell (AV.ptr 2 0)), (0, 6, Cont.cell (AV.int IntKind.i64 0)), (0, 7, Cont.cell (AV.int IntKind.i64 (IntKind.i64.wrap ((↑i : Int) + 1)))), (1, 0, Cont.vec 2 46 (List.length l) fun j => bif j == i then AV.agg (AV.cells (AV.agg ([AV.int IntKind.i64 (-1)] ++ AV.cells (AV.int IntKind.i64 (-1)) ++ []))) else spF L j), (2, 0, Cont.cell (AV.rs 2 (List.length l) false (spF l))), (2, 1, Cont.cell (AV.mp 3)), (2, 2, Cont.top), (3, 0, Cont.map 2 (qmap (sqN l (List.length l))))], 388, 42⟩) (by kernel_rfl) (by kernel_rfl) ?_
      rw [wrap_add_one hlt (by omega)]
      refine round_normal (⟨(i + 1, L.set i (-1, -1)), hlt, by rw [List.length_set]; exact hL⟩) (wk_go [1, 2, 3] rfl (by decide) rfl rfl ⟨⟨_, rfl, rfl⟩, ⟨_, rfl, rfl⟩, ⟨_, rfl, rfl⟩, ⟨_, rfl, rfl⟩, ⟨_, rfl, rfl⟩, ⟨_, rfl, rfl⟩, ⟨_, rfl, rfl⟩, ⟨_, rfl, ?_⟩, ⟨_, rfl, rfl⟩, ⟨_, rfl, rfl⟩, ⟨_, rfl, trivial⟩, ⟨_, rfl, Go.Eng.S12.cw_qmap _⟩, trivial⟩) ?_
      · refine ⟨rfl, rfl, rfl, fun j hj => ?_⟩
        exact spF_set L (by omega) (-1, -1) j
      · show l.length - (i + 1) < l.length - i; omega
    · clear hc
      refine evC_exit ?_
      refine then_exit ?_
      refine round_exit ?_
      refine block_exit ?_
      refine then_normal ?_
      refine evC_seq ?_
      refine evC_go (dec := []) (ks := [(0, 2), (0, 3), (0, 5), (0, 6), (0, 28), (2, 0), (2, 1), (2, 2), (3, 0)]) (ps := [(∀ (i : Nat), i < List.length l → spF l i = spF (spL (List.length l) (spF l)) i) ∧ List.length l ≤ (258 : Nat)]) (s' := ⟨[(0, 2, Cont.cell AV.nilp), (0, 3, Cont.cell (AV.bool false)), (0, 5, Cont.cell (AV.ptr 2 0)), (0, 6, Cont.cell (AV.int IntKind.i64 0)), (0, 28, Cont.cell (AV.bool !mayB (spL (List.length l) (spF l)))), (2, 0, Cont.cell (AV.rs 2 (List.length l) false (spF l))), (2, 1, Cont.cell (AV.mp 3)), (2, 2, Cont.top), (3, 0, Cont.map 2 (qmap (sqN l (List.length l))))], 228, 42⟩) (by kernel_rfl) (by kernel_rfl) ?_ ?_
      · exact ⟨fun i hi => by rw [spL_spF], h2⟩
      rw [spL_spF, h3]
      refine evC_if (q := false) (by kernel_rfl) (fun hc => ?_) (fun hc => ?_)
      · cases hc
      refine evC_skip ?_
      refine then_normal ?_
      refine evC_go0 (dec := []) (ks := [(0, 2), (0, 3), (2, 0), (2, 1), (2, 2), (3, 0)]) (s' := ⟨[(0, 2, Cont.cell (AV.ptr 2 0)), (0, 3, Cont.cell (AV.bool true)), (2, 0, Cont.cell (AV.rs 2 (List.length l) false (spF l))), (2, 1, Cont.cell (AV.mp 3)), (2, 2, Cont.top), (3, 0, Cont.map 2 (qmap (sqN l (List.length l))))], 516, 42⟩) (by kernel_rfl) (by kernel_rfl) ?_
      refine evC_ret ?_
      refine post_ret ?_
      refine ends_go [2, 3] (AV.tup [AV.ptr 1 0, AV.bool true]) [(1, 0, Cont.cell (AV.rs 2 (List.length l) false (spF l))), (1, 1, Cont.cell (AV.mp 2)), (1, 2, Cont.top), (2, 0, Cont.map 2 (qmap (sqN l (List.length l))))] rfl (by decide) rfl rfl (has_of _ rfl) rfl ⟨⟨_, rfl, rfl⟩, ⟨_, rfl, rfl⟩, ⟨_, rfl, trivial⟩, ⟨_, rfl, Go.Eng.S12.cw_qmap _⟩, trivial⟩ ⟨?_, fun _ => ⟨1, _, rfl, rfl, rfl, ⟨has_of _ rfl, rfl⟩⟩, fun _ => ⟨1, _, rfl, rfl, rfl, trivial⟩, ?_, trivial⟩ (kept_nil _)
      · exact fun _ => ⟨1, _, rfl, rfl, rfl, sps_has l, rfl⟩
      · exact fun _ => ⟨2, _, rfl, rfl, rfl, cf_qmap _⟩
  · cases e
theorem madeB_ok : SpecOK Try.prog 8 sMadeB := by
  refine spec_own (by kernel_rfl) T_ok (sget_cons newVB_ok (sget_cons refMay_ok sget_nil)) Try.func8 rfl rfl fun args hr nb out e => ?_
  unfold sMadeB at e
  split at e
  · rename_i n f
    injection e with e; subst e
    refine ⟨(fun _ h => nomatch h), true, [.rs 2 n false (spF (spL n f))], rfl, fun hs => ?_⟩
    obtain ⟨h1, h2⟩ := hs _ List.mem_cons_self
    have h3 := hs _ (List.mem_cons_of_mem _ List.mem_cons_self)
    refine ⟨.cons _ _ _ _ (.rs _ _ _ _ _ _ fun i hi => ⟨h1 i hi, (spF_flat _ i).has⟩) .nil, ?_⟩
    clear hs h1
    have hn := spL_len n f
    generalize spL n f = l at *
    subst hn
    refine evC_go0 (dec := []) (ks := [(0, 0), (0, 2), (0, 3)]) (s' := ⟨[(0, 0, Cont.cell (AV.rs 2 (List.length l) false (spF l))), (0, 2, Cont.cell AV.nilp), (0, 3, Cont.cell (AV.bool false))], 65, 42⟩) (by kernel_rfl) (by kernel_rfl) ?_
    refine evC_go (dec := []) (ks := [(0, 0), (0, 2), (0, 3), (0, 4), (129, 0)]) (ps := [((0 : Nat) + List.length l) * (16 : Nat) ≤ (140737488355328 : Nat), (0 : Nat) + List.length l ≤ maxLen, List.length l = (0 : Nat) ∨ (2 : Nat) = (2 : Nat), (2 : Nat) = (2 : Nat), (46 : Nat) = (46 : Nat)]) (s' := ⟨[(0, 0, Cont.cell (AV.rs 2 (List.length l) false (spF l))), (0, 2, Cont.cell AV.nilp), (0, 3, Cont.cell (AV.bool false)), (0, 4, Cont.cell (AV.vs 129)), (129, 0, Cont.vec 2 46 (0 + List.length l) (catF 0 (pget []) (spF l)))], 193, 42⟩) (by kernel_rfl) (by kernel_rfl) ?_ ?_
    · (simp only [All]; (repeat' apply And.intro) <;> (try intro _) <;> (try intro _) <;> (repeat' apply And.intro) <;> (try intro _) <;> (try intro _) <;> first | trivial | assumption | exact .inr trivial | exact .inr rfl | omega | rfl | exact ⟨_, rfl, rfl⟩ | exact ⟨rfl, rfl⟩ | exact ⟨fun _ => rfl, fun _ => rfl⟩ | (unfold maxLen; omega) | (unfold i64R; first | omega | decide) | decide)
    refine evC_wk (s' := ⟨[(0, 0, Cont.cell (AV.rs 2 (List.length l) false (spF l))), (0, 2, Cont.cell AV.nilp), (0, 3, Cont.cell (AV.bool false)), (0, 4, Cont.cell (AV.vs 1)), (1, 0, .vec 2 46 (List.length l) (spF l))], 2, 42⟩) _ (wk_go [129] rfl (by decide) rfl rfl ⟨⟨_, rfl, rfl⟩, ⟨_, rfl, rfl⟩, ⟨_, rfl, rfl⟩, ⟨_, rfl, rfl⟩, ⟨_, rfl, ?_⟩, trivial⟩) ?_
    · exact ⟨rfl, rfl, Nat.zero_add _, fun i hi => rfl⟩
    refine evC_go (dec := []) (ks := [(0, 0), (0, 2), (0, 3), (0, 4), (0, 5), (0, 6), (1, 0)]) (ps := [(0 : Nat) < (1 : Nat), (∀ (i : Nat), i < List.length l → spF l i = spF (spL (List.length l) (spF l)) i) ∧ List.length l ≤ (300 : Nat), mayB (spL (List.length l) (spF l)) = false]) (s' := ⟨[(0, 0, Cont.cell (AV.rs 2 (List.length l) false (spF l))), (0, 2, Cont.cell AV.nilp), (0, 3, Cont.cell (AV.bool false)), (0, 4, Cont.cell (AV.vs 1)), (0, 5, Cont.cell AV.nilp), (0, 6, Cont.cell (AV.int IntKind.i64 1)), (1, 0, Cont.vec 2 46 (List.length l) (spF l))], 226, 42⟩) (by kernel_rfl) (by kernel_rfl) ?_ ?_
    · exact ⟨by decide, ⟨fun i hi => by rw [spL_spF], by omega⟩, by rw [spL_spF]; exact h3⟩
    refine evC_seq ?_
    refine evC_go0 (dec := []) (ks := [(0, 0), (0, 2), (0, 3), (0, 4), (0, 5), (0, 6), (0, 7), (1, 0)]) (s' := ⟨[(0, 0, Cont.cell (AV.rs 2 (List.length l) false (spF l))), (0, 2, Cont.cell AV.nilp), (0, 3, Cont.cell (AV.bool false)), (0, 4, Cont.cell (AV.vs 1)), (0, 5, Cont.cell AV.nilp), (0, 6, Cont.cell (AV.int IntKind.i64 1)), (0, 7, Cont.cell (AV.int IntKind.i64 0)), (1, 0, Cont.vec 2 46 (List.length l) (spF l))], 258, 42⟩) (by kernel_rfl) (by kernel_rfl) ?_
    refine evC_block ?_
    refine evC_loop (ι := { q : Nat × List Sp // q.1 ≤ l.length ∧ q.2.length = l.length }) (fun q => ⟨[(0, 0, Cont.cell (AV.rs 2 (List.length l) false (spF l))), (0, 2, Cont.cell AV.nilp), (0, 3, Cont.cell (AV.bool false)), (0, 4, Cont.cell (AV.vs 1)), (0, 5, Cont.cell AV.nilp), (0, 6, Cont.cell (AV.int IntKind.i64 1)), (0, 7, .cell (.int .i64 (q.1.1 : Nat))), (1, 0, .vec 2 46 l.length (spF q.1.2))], 2, 42⟩) (fun q => l.length - q.1.1) ⟨(0, l), Nat.zero_le _, rfl⟩ (wk_go [1] rfl (by decide) rfl rfl ⟨⟨_, rfl, rfl⟩, ⟨_, rfl, rfl⟩, ⟨_, rfl, rfl⟩, ⟨_, rfl, rfl⟩, ⟨_, rfl, rfl⟩, ⟨_, rfl, rfl⟩, ⟨_, rfl, rfl⟩, ⟨_, rfl, ⟨rfl, rfl, rfl, fun _ _ => rfl⟩⟩, trivial⟩) ?_
    rintro ⟨⟨i, L⟩, hi, hL⟩
    have hi : i ≤ l.length := hi
    have hL : L.length = l.length := hL
    refine evC_seq ?_
    refine evC_go0 (dec := []) (ks := [(0, 0), (0, 2), (0, 3), (0, 4), (0, 5), (0, 6), (0, 7), (0, 19), (1, 0)]) (s' := ⟨[(0, 0, Cont.cell (AV.rs 2 (List.length l) false (spF l))), (0, 2, Cont.cell AV.nilp), (0, 3, Cont.cell (AV.bool false)), (0, 4, Cont.cell (AV.vs 1)), (0, 5, Cont.cell AV.nilp), (0, 6, Cont.cell (AV.int IntKind.i64 1)), (0, 7, Cont.cell (AV.int IntKind.i64 (↑i : Int))), (0, 19, Cont.cell (AV.bool (decide ((↑i : Int) < (↑(List.length l) : Int))))), (1, 0, Cont.vec 2 46 (List.length l) (spF L))], 130, 42⟩) (by kernel_rfl) (by kernel_rfl) ?_
    refine evC_if (q := decide ((↑i : Int) < (↑(List.length l) : Int))) (by kernel_rfl) (fun hc => ?_) (fun hc => ?_)
    · have hlt : i < l.length := by have := of_decide_eq_true hc; omega
      clear hc
      refine evC_skip ?_
      refine then_normal ?_
      refine evC_seq ?_
      refine evC_block ?_
      refine evC_goL (dec := []) (ks := [(0, 0), (0, 2), (0, 3), (0, 4), (0, 5), (0, 6), (0, 7), (1, 0)]) (ps := [(0 : Int) ≤ (↑i : Int), (↑i : Int) < (↑(List.length l) : Int), (2 : Nat) = (2 : Nat), (0 : Int) ≤ (↑i : Int), (↑i : Int) < (↑(List.length l) : Int), (2 : Nat) = (2 : Nat), widthC (AV.cells (AV.agg ([AV.int IntKind.i64 (-1 : Int)] ++ AV.cells (AV.int IntKind.i64 (-1 : Int)) ++ []))) = (2 : Nat)]) (s' := ⟨[(0, 0, Cont.cell (AV.rs 2 (List.length l) false (spF l))), (0, 2, Cont.cell AV.nilp), (0, 3, Cont.cell (AV.bool false)), (0, 4, Cont.cell (AV.vs 1)), (0, 5, Cont.cell AV.nilp), (0, 6, Cont.cell (AV.int IntKind.i64 1)), (0, 7, Cont.cell (AV.int IntKind.i64 (↑i : Int))), (1, 0, Cont.vec 2 46 (List.length l) fun j => bif j == i then AV.agg (AV.cells (AV.agg ([AV.int IntKind.i64 (-1)] ++ AV.cells (AV.int IntKind.i64 (-1)) ++ []))) else spF L j)], 290, 42⟩) (by kernel_rfl) (by kernel_rfl) ?_ ?_
      · (simp only [All]; (repeat' apply And.intro) <;> (try intro _) <;> (try intro _) <;> (repeat' apply And.intro) <;> (try intro _) <;> (try intro _) <;> first | trivial | assumption | exact .inr trivial | exact .inr rfl | omega | rfl | exact ⟨_, rfl, rfl⟩ | exact ⟨rfl, rfl⟩ | exact ⟨fun _ => rfl, fun _ => rfl⟩ | (unfold maxLen; omega) | (unfold i64R; first | omega | decide) | decide)
      refine block_normal ?_
      refine then_normal ?_
      refine evC_goL0 (dec := []) (ks := [(0, 0), (0, 2), (0, 3), (0, 4), (0, 5), (0, 6), (0, 7), (1, 0)]) (s' := ⟨[(0, 0, Cont.cell (AV.rs 2 (List.length l) false (spF l))), (0, 2, Cont.cell AV.nilp), (0, 3, Cont.cell (AV.bool false)), (0, 4, Cont.cell (AV.vs 1)), (0, 5, Cont.cell AV.nilp), (0, 6, Cont.cell (AV.int IntKind.i64 1)), (0, 7, Cont.cell (AV.int IntKind.i64 (IntKind.i64.wrap ((↑i : Int) + 1)))), (1, 0, Cont.vec 2 46 (List.length l) fun j => bif j == i then AV.agg (AV.cells (AV.agg ([AV.int IntKind.i64 (-1)] ++ AV.cells (AV.int IntKind.i64 (-1)) ++ []))) else spF L j)], 386, 42⟩) (by kernel_rfl) (by kernel_rfl) ?_
      rw [wrap_add_one hlt (by omega)]
      refine round_normal (⟨(i + 1, L.set i (-1, -1)), hlt, by rw [List.length_set]; exact hL⟩) (wk_go [1] rfl (by decide) rfl rfl ⟨⟨_, rfl, rfl⟩, ⟨_, rfl, rfl⟩, ⟨_, rfl, rfl⟩, ⟨_, rfl, rfl⟩, ⟨_, rfl, rfl⟩, ⟨_, rfl, rfl⟩, ⟨_, rfl, rfl⟩, ⟨_, rfl, ?_⟩, trivial⟩) ?_
      · refine ⟨rfl, rfl, rfl, fun j hj => ?_⟩
        exact spF_set L (by omega) (-1, -1) j
      · show l.length - (i + 1) < l.length - i; omega
    · clear hc
      refine evC_exit ?_
      refine then_exit ?_
      refine round_exit ?_
      refine block_exit ?_
      refine then_normal ?_
      refine evC_seq ?_
      refine evC_go (dec := []) (ks := [(0, 2), (0, 3), (0, 5), (0, 6), (0, 28)]) (ps := [(∀ (i : Nat), i < List.length l → spF l i = spF (spL (List.length l) (spF l)) i) ∧ List.length l ≤ (258 : Nat)]) (s' := ⟨[(0, 2, Cont.cell AV.nilp), (0, 3, Cont.cell (AV.bool false)), (0, 5, Cont.cell AV.nilp), (0, 6, Cont.cell (AV.int IntKind.i64 1)), (0, 28, Cont.cell (AV.bool !mayB (spL (List.length l) (spF l))))], 226, 42⟩) (by kernel_rfl) (by kernel_rfl) ?_ ?_
      · exact ⟨fun i hi => by rw [spL_spF], h2⟩
      rw [spL_spF, h3]
      refine evC_if (q := true) (by kernel_rfl) (fun hc => ?_) (fun hc => ?_)
      rotate_left
      · cases hc
      refine evC_go0 (dec := []) (ks := [(0, 2), (0, 3), (0, 5), (0, 6)]) (s' := ⟨[(0, 2, Cont.cell AV.nilp), (0, 3, Cont.cell (AV.bool true)), (0, 5, Cont.cell AV.nilp), (0, 6, Cont.cell (AV.int IntKind.i64 1))], 482, 42⟩) (by kernel_rfl) (by kernel_rfl) ?_
      refine evC_ret ?_
      refine then_ret ?_
      refine post_ret ?_
      refine ends_flat (vs := [AV.nilp, AV.bool true]) (Nat.zero_lt_succ _) (by kernel_rfl) (flat_of _ (by kernel_rfl)) rfl ?_
      rfl
  · cases e
/-- A new index, where it is known of which spots. -/
def sNewVP (l : List Sp) : Spec := fun args hr nb => match args with
  | [.vs j] => match hr j 0 with
    | some (.vec 2 46 n f) => some ⟨[0 < j, n = l.length ∧ (∀ i, i < n → f i = spF l i) ∧ n ≤ 300, mayB l = true], .tup [.ptr nb 0, .int .i64 0], [(j, 0, .vec 2 46 n f)], icon nb (nb + 1) l⟩
    | _ => none
  | _ => none
theorem newVP_ok (l : List Sp) : SpecOK Try.prog 18 (sNewVP l) := by
  refine ⟨newVG_ok.1, fun args hr nb out e => ?_, fun mine ρ ro h w args xs hr nb out S hargs e hrd hs hnb hfr => ?_⟩
  · unfold sNewVP at e
    split at e
    · split at e
      · rename_i hj
        injection e with e; subst e
        intro x hx
        rw [List.mem_singleton.1 hx]; exact hj
      · cases e
    · cases e
  · unfold sNewVP at e
    split at e
    · rename_i j
      split at e
      · rename_i n f hj
        injection e with e; subst e
        have h0 := hs _ List.mem_cons_self
        obtain ⟨h1, h2, h3⟩ := hs _ (List.mem_cons_of_mem _ List.mem_cons_self)
        have h4 := hs _ (List.mem_cons_of_mem _ (List.mem_cons_of_mem _ List.mem_cons_self))
        have hl : spL n f = l := by
          refine List.ext_getElem (by rw [spL_len, h1]) fun i i1 i2 => ?_
          rw [spL_len] at i1
          have := spL_get n f i1
          rw [h2 i i1] at this
          rw [List.getD_eq_getElem?_getD, List.getElem?_eq_getElem (by rw [spL_len]; exact i1)] at this
          simp [spF, cv, iv, i2] at this
          exact this
        refine newVG_ok.2.2 mine ρ ro h w [.vs j] xs hr nb ⟨[0 < j, (∀ i, i < n → f i = spF l i) ∧ n ≤ 300, mayB l = true], .tup [.ptr nb 0, .int .i64 0], [(j, 0, .vec 2 46 n f)], icon nb (nb + 1) l⟩ S hargs (by simp only [sNewVG, hj, hl]) hrd (fun q hq => ?_) hnb hfr
        simp only [List.mem_cons, List.not_mem_nil, or_false] at hq
        rcases hq with rfl | rfl | rfl
        · exact h0
        · exact ⟨h2, h3⟩
        · exact h4
      · cases e
    · cases e
def l3 : List Sp := [(0, 0), (3, 4), (3, 4)]
def sAwake : Spec := fun args _ _ => match args with
  | [] => some ⟨[], .bool true, [], []⟩
  | _ => none
theorem awake_ok : SpecOK Try.prog 9 sAwake := by
  obtain ⟨l, hl⟩ : ∃ l, l = l3 := ⟨_, rfl⟩
  refine spec_own (by kernel_rfl) T_ok (sget_cons (newVP_ok l) (sget_cons within_ok (sget_cons nearest_ok (sget_cons pairs_ok sget_nil)))) Try.func9 rfl rfl fun args hr nb out e => ?_
  unfold sAwake at e
  split at e
  · injection e with e; subst e
    refine ⟨(fun _ h => nomatch h), true, [], rfl, fun hs => ⟨.nil, ?_⟩⟩
    clear hs
    have f3 : ∀ i, i < 3 → pget [(0, AV.agg [.int .i64 0, .int .i64 0]), (1, AV.agg ([AV.int .i64 3] ++ AV.cells (AV.int .i64 4) ++ [])), (2, AV.agg ([AV.int .i64 3] ++ AV.cells (AV.int .i64 4) ++ []))] i = spF l i := fun i hi => by
      rw [hl]
      match i, hi with
      | 0, _ => rfl
      | 1, _ => rfl
      | 2, _ => rfl
    have hm3 : mayB l = true := by rw [hl]; decide
    have hl3 := mayB_iff.1 hm3
    have hlen : l.length = 3 := by rw [hl]; rfl
    have w3 : witO l 0 0 5 = [0, 1, 2] ∧ errF (okW 0 0 5) = 0 := by rw [hl]; decide
    have n3 : nstV l 4 4 = 1 ∧ nstE l 4 4 = 0 := by rw [hl]; decide
    have p3 : prO l 0 = [(1, 2)] ∧ errF (inb 0) = 0 := by rw [hl]; decide
    clear hl
    refine evC_go0 (dec := []) (ks := [(0, 0)]) (s' := ⟨[(0, 0, Cont.cell (AV.bool false))], 33, 73⟩) (by kernel_rfl) (by kernel_rfl) ?_
    refine evC_go (dec := []) (ks := [(0, 0), (0, 1), (0, 2), (161, 0), (161, 1), (161, 2), (162, 0)]) (ps := [(0 : Nat) < (33 : Nat) + (32 : Nat) * ((0 : Nat) + (1 : Nat) + (1 : Nat) + (1 : Nat)), (3 : Nat) = List.length l ∧ (∀ (i : Nat), i < (3 : Nat) → pget [((0 : Nat), AV.agg [AV.int IntKind.i64 (0 : Int), AV.int IntKind.i64 (0 : Int)]), ((1 : Nat), AV.agg ([AV.int IntKind.i64 (3 : Int)] ++ AV.cells (AV.int IntKind.i64 (4 : Int)) ++ [])), ((2 : Nat), AV.agg ([AV.int IntKind.i64 (3 : Int)] ++ AV.cells (AV.int IntKind.i64 (4 : Int)) ++ []))] i = spF l i) ∧ (3 : Nat) ≤ (300 : Nat), mayB l = true]) (s' := ⟨[(0, 0, Cont.cell (AV.bool false)), (0, 1, Cont.cell (AV.ptr 161 0)), (0, 2, Cont.cell (AV.int IntKind.i64 0)), (161, 0, Cont.cell (AV.rs 2 (List.length l) false (spF l))), (161, 1, Cont.cell (AV.mp 162)), (161, 2, Cont.top), (162, 0, Cont.map 2 (qmap (sqN l (List.length l))))], 353, 73⟩) (by kernel_rfl) (by kernel_rfl) ?_ ?_
    · exact ⟨by decide, ⟨hlen.symm, f3, by decide⟩, hm3⟩
    refine evC_seq ?_
    refine evC_go0 (dec := []) (ks := [(0, 0), (0, 1), (0, 22), (161, 0), (161, 1), (161, 2), (162, 0)]) (s' := ⟨[(0, 0, Cont.cell (AV.bool false)), (0, 1, Cont.cell (AV.ptr 161 0)), (0, 22, Cont.cell (AV.bool false)), (161, 0, Cont.cell (AV.rs 2 (List.length l) false (spF l))), (161, 1, Cont.cell (AV.mp 162)), (161, 2, Cont.top), (162, 0, Cont.map 2 (qmap (sqN l (List.length l))))], 545, 73⟩) (by kernel_rfl) (by kernel_rfl) ?_
    refine evC_if (q := false) (by kernel_rfl) (fun hc => ?_) (fun hc => ?_)
    · cases hc
    refine evC_skip ?_
    refine then_normal ?_
    refine evC_go (dec := []) (ks := [(0, 0), (0, 1), (0, 3), (0, 4), (161, 0), (161, 1), (161, 2), (162, 0)]) (ps := [((0 : Nat) < (161 : Nat) ∧ (0 : Nat) < (162 : Nat) ∧ (161 : Nat) ≠ (162 : Nat)) ∧ spF l = spF (spL (List.length l) (spF l)) ∧ qmap (sqN l (List.length l)) = qmap (sqN (spL (List.length l) (spF l)) (List.length (spL (List.length l) (spF l)))) ∧ InL (spL (List.length l) (spF l))]) (s' := ⟨[(0, 0, Cont.cell (AV.bool false)), (0, 1, Cont.cell (AV.ptr 161 0)), (0, 3, Cont.cell (AV.rs 1 (List.length (witO (spL (List.length l) (spF l)) 0 0 5)) false (lst (witO (spL (List.length l) (spF l)) 0 0 5)))), (0, 4, Cont.cell (AV.int IntKind.i64 (errF (okW 0 0 5)))), (161, 0, Cont.cell (AV.rs 2 (List.length l) false (spF l))), (161, 1, Cont.cell (AV.mp 162)), (161, 2, Cont.top), (162, 0, Cont.map 2 (qmap (sqN l (List.length l))))], 769, 73⟩) (by kernel_rfl) (by kernel_rfl) ?_ ?_
    · exact ⟨⟨by decide, by decide, by decide⟩, by rw [idx_eta], by rw [idx_eta], by rw [idx_eta]; exact hl3⟩
    rw [idx_eta, w3.1, w3.2]
    refine evC_go (dec := []) (ks := [(0, 0), (0, 1), (0, 3), (0, 4), (0, 5), (0, 6), (161, 0), (161, 1), (161, 2), (162, 0)]) (ps := [((0 : Nat) < (161 : Nat) ∧ (0 : Nat) < (162 : Nat) ∧ (161 : Nat) ≠ (162 : Nat)) ∧ spF l = spF (spL (List.length l) (spF l)) ∧ qmap (sqN l (List.length l)) = qmap (sqN (spL (List.length l) (spF l)) (List.length (spL (List.length l) (spF l)))) ∧ InL (spL (List.length l) (spF l))]) (s' := ⟨[(0, 0, Cont.cell (AV.bool false)), (0, 1, Cont.cell (AV.ptr 161 0)), (0, 3, Cont.cell (AV.rs 1 3 false (lst [0, 1, 2]))), (0, 4, Cont.cell (AV.int IntKind.i64 0)), (0, 5, Cont.cell (AV.int IntKind.i64 (nstV (spL (List.length l) (spF l)) 4 4))), (0, 6, Cont.cell (AV.int IntKind.i64 (nstE (spL (List.length l) (spF l)) 4 4))), (161, 0, Cont.cell (AV.rs 2 (List.length l) false (spF l))), (161, 1, Cont.cell (AV.mp 162)), (161, 2, Cont.top), (162, 0, Cont.map 2 (qmap (sqN l (List.length l))))], 993, 73⟩) (by kernel_rfl) (by kernel_rfl) ?_ ?_
    · exact ⟨⟨by decide, by decide, by decide⟩, by rw [idx_eta], by rw [idx_eta], by rw [idx_eta]; exact hl3⟩
    rw [idx_eta, n3.1, n3.2]
    refine evC_go (dec := []) (ks := [(0, 0), (0, 3), (0, 4), (0, 5), (0, 6), (0, 7), (0, 8)]) (ps := [((0 : Nat) < (161 : Nat) ∧ (0 : Nat) < (162 : Nat) ∧ (161 : Nat) ≠ (162 : Nat)) ∧ spF l = spF (spL (List.length l) (spF l)) ∧ qmap (sqN l (List.length l)) = qmap (sqN (spL (List.length l) (spF l)) (List.length (spL (List.length l) (spF l)))) ∧ InL (spL (List.length l) (spF l)), List.length (spL (List.length l) (spF l)) ≤ (100 : Nat)]) (s' := ⟨[(0, 0, Cont.cell (AV.bool false)), (0, 3, Cont.cell (AV.rs 1 3 false (lst [0, 1, 2]))), (0, 4, Cont.cell (AV.int IntKind.i64 0)), (0, 5, Cont.cell (AV.int IntKind.i64 1)), (0, 6, Cont.cell (AV.int IntKind.i64 0)), (0, 7, Cont.cell (AV.rs 2 (List.length (prO (spL (List.length l) (spF l)) 0)) false (spF (prO (spL (List.length l) (spF l)) 0)))), (0, 8, Cont.cell (AV.int IntKind.i64 (errF (inb 0))))], 1217, 73⟩) (by kernel_rfl) (by kernel_rfl) ?_ ?_
    · exact ⟨⟨⟨by decide, by decide, by decide⟩, by rw [idx_eta], by rw [idx_eta], by rw [idx_eta]; exact hl3⟩, by rw [idx_eta, hlen]; show (3:Nat) ≤ 100; decide⟩
    rw [idx_eta, p3.1, p3.2]
    refine evC_go (dec := []) (ks := [(0, 0)]) (ps := [List.all [bif bif bif bif (↑(3 : Nat) : Int) == (3 : Int) then (0 : Int) == (0 : Int) else false then (1 : Int) == (1 : Int) else false then (0 : Int) == (0 : Int) else false then (↑(List.length [((1 : Int), (2 : Int))]) : Int) == (1 : Int) else false] id = true → (0 : Int) ≤ (0 : Int), List.all [bif bif bif bif (↑(3 : Nat) : Int) == (3 : Int) then (0 : Int) == (0 : Int) else false then (1 : Int) == (1 : Int) else false then (0 : Int) == (0 : Int) else false then (↑(List.length [((1 : Int), (2 : Int))]) : Int) == (1 : Int) else false] id = true → (0 : Int) < (↑(List.length [((1 : Int), (2 : Int))]) : Int), List.all [bif bif bif bif (↑(3 : Nat) : Int) == (3 : Int) then (0 : Int) == (0 : Int) else false then (1 : Int) == (1 : Int) else false then (0 : Int) == (0 : Int) else false then (↑(List.length [((1 : Int), (2 : Int))]) : Int) == (1 : Int) else false] id = true → (2 : Nat) = (2 : Nat)]) (s' := ⟨[(0, 0, Cont.cell (AV.bool true))], 2369, 73⟩) (by kernel_rfl) (by kernel_rfl) ?_ ?_
    · exact ⟨fun _ => by decide, fun _ => by decide, fun _ => rfl⟩
    refine evC_ret ?_
    refine post_ret ?_
    refine ends_flat (vs := [AV.bool true]) (Nat.zero_lt_succ _) (by kernel_rfl) (flat_of _ (by kernel_rfl)) rfl ?_
    rfl
  · cases e
end Go.Eng.S12
