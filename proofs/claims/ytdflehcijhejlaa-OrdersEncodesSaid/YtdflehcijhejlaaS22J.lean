/- Seat 22: the laws of encoding and of queues, walked. -/
import Derived.Test.YtdflehcijhejlaaEngX
import Derived.Test.YtdflehcijhejlaaS22H
set_option linter.unusedSimpArgs false
set_option linter.unusedVariables false
namespace Go.Eng.S22
open Go.Proofs Go.IntWalk
set_option maxRecDepth 10000

theorem lstU_rs {l m : List Int} (h : ∀ j, l.getD j 0 = m.getD j 0) : lstU l = lstU m := funext fun j => congrArg (AV.int .u8) (h j)
def sLawO : Spec := fun args hr nb => match args with
  | [v] => match sl 5 hr v with
    | some (n, f, rd) => some ⟨[(∀ i, i < n → f i = nO (O f) i) ∧ n ≤ maxLen], .bool true, rd, []⟩
    | none => none
  | _ => none
theorem law_encodes_ok : SpecOK Try.prog 4 sLawO := by
  refine spec_own (by kernel_rfl) T_ok (sget_cons few_ok (sget_cons form_ok (sget_cons refForm_ok (sget_cons bytes_ok (sget_cons enc_ok (sget_cons awake_ok sget_nil)))))) Try.func4 rfl rfl fun args hr nb out e => ?_
  unfold sLawO at e
  split at e
  · rename_i v
    split at e
    · rename_i n f rd hs1
      injection e with e; subst e
      refine ⟨fun x hx => sl_rd hs1 x hx, false, [.rs 5 n false (nO (O f))], rfl, fun hs => ?_⟩
      obtain ⟨h1, h2⟩ := hs _ List.mem_cons_self
      refine ⟨.cons _ _ _ _ (.slice _ _ _ _ _ hs1 (fun y hy => ⟨hy, by simp⟩) _ fun i hi => ⟨h1 i hi, (nO_flat _ i).has⟩) .nil, ?_⟩
      clear hs h1
      generalize O f = w
      refine evC_go0 (dec := []) (ks := [(0, 0), (0, 2)]) (s' := ⟨[(0, 0, Cont.cell (AV.rs 5 n false (nO w))), (0, 2, Cont.cell (AV.bool false))], 9, 62⟩) (by kernel_rfl) (by kernel_rfl) ?_
      refine evC_go (dec := []) (ks := [(0, 0), (0, 2)]) (ps := [(∀ (i : Nat), i < n → nO w i = nO (O (nO w)) i) ∧ n ≤ maxLen]) (s' := ⟨[(0, 0, Cont.cell (AV.rs 5 (cut n 66) false (nO (O (nO w))))), (0, 2, Cont.cell (AV.bool false))], 33, 62⟩) (by kernel_rfl) (by kernel_rfl) ?_ ?_
      · exact ⟨fun _ _ => rfl, h2⟩
      rw [O_nO]
      obtain ⟨hm1, hm2⟩ := cut_le n 66
      generalize cut n 66 = m at hm1 hm2 ⊢
      refine evC_go0 (dec := []) (ks := [(0, 0), (0, 2), (0, 3)]) (s' := ⟨[(0, 0, Cont.cell (AV.rs 5 m false (nO w))), (0, 2, Cont.cell (AV.bool false)), (0, 3, Cont.cell AV.nils)], 41, 62⟩) (by kernel_rfl) (by kernel_rfl) ?_
      refine evC_wk _ (.nil 0 3 1 5 (fun _ => .nils) (Nat.le_of_ble_eq_true rfl) rfl) ?_
      refine evC_go0 (dec := []) (ks := [(0, 0), (0, 2), (0, 3), (0, 4), (41, 0)]) (s' := ⟨[(0, 0, Cont.cell (AV.rs 5 m false (nO w))), (0, 2, Cont.cell (AV.bool false)), (0, 3, Cont.cell (AV.vs 41)), (0, 4, Cont.cell (AV.bool (decide ((↑m : Int) ≤ 64)))), (41, 0, Cont.vec 1 5 0 fun x => AV.nils)], 74, 62⟩) (by kernel_rfl) (by kernel_rfl) ?_
      refine evC_seq ?_
      refine evC_go0 (dec := []) (ks := [(0, 0), (0, 2), (0, 3), (0, 4), (0, 5), (41, 0)]) (s' := ⟨[(0, 0, Cont.cell (AV.rs 5 m false (nO w))), (0, 2, Cont.cell (AV.bool false)), (0, 3, Cont.cell (AV.vs 41)), (0, 4, Cont.cell (AV.bool (decide ((↑m : Int) ≤ 64)))), (0, 5, Cont.cell (AV.int IntKind.i64 0)), (41, 0, Cont.vec 1 5 0 fun x => AV.nils)], 82, 62⟩) (by kernel_rfl) (by kernel_rfl) ?_
      have e64 : decide ((m : Int) ≤ 64) = decide (m ≤ 64) := decide_eq_decide.2 (by omega)
      rw [e64]
      refine evC_block ?_
      refine evC_loop (ι := { s : Nat × Nat × Bool // s.1 ≤ m ∧ s.2.1 ≤ s.1 ∧ s.2.2 = (decide (m ≤ 64) && allO w s.1) ∧ (s.2.2 = true → s.2.1 = s.1) }) (fun x => ⟨[(0, 0, Cont.cell (AV.rs 5 m false (nO w))), (0, 2, Cont.cell (AV.bool false)), (0, 3, Cont.cell (AV.vs 1)), (0, 4, .cell (.bool x.1.2.2)), (0, 5, .cell (.int .i64 (x.1.1 : Nat))), (1, 0, .vec 1 5 (11 * x.1.2.1) (lstU (encL w x.1.2.1)))], 2, 62⟩) (fun x => m - x.1.1) ⟨(0, 0, decide (m ≤ 64)), Nat.zero_le _, Nat.le_refl _, by simp [allO], fun _ => rfl⟩ (wk_go [41] rfl (by decide) rfl rfl ⟨⟨_, rfl, rfl⟩, ⟨_, rfl, rfl⟩, ⟨_, rfl, rfl⟩, ⟨_, rfl, rfl⟩, ⟨_, rfl, rfl⟩, ⟨_, rfl, ⟨rfl, rfl, rfl, fun _ hi => absurd hi (Nat.not_lt_zero _)⟩⟩, trivial⟩) ?_
      rintro ⟨⟨i, p, b⟩, hi, hp, hb, hbp⟩
      simp only at hi hp hb hbp
      refine evC_seq ?_
      refine evC_go0 (dec := []) (ks := [(0, 0), (0, 2), (0, 3), (0, 4), (0, 5), (0, 14), (1, 0)]) (s' := ⟨[(0, 0, Cont.cell (AV.rs 5 m false (nO w))), (0, 2, Cont.cell (AV.bool false)), (0, 3, Cont.cell (AV.vs 1)), (0, 4, Cont.cell (AV.bool b)), (0, 5, Cont.cell (AV.int IntKind.i64 (↑i : Int))), (0, 14, Cont.cell (AV.bool (decide ((↑i : Int) < (↑m : Int))))), (1, 0, Cont.vec 1 5 (11 * p) (lstU (encL w p)))], 34, 62⟩) (by kernel_rfl) (by kernel_rfl) ?_
      refine evC_if (q := decide ((↑i : Int) < (↑m : Int))) (by kernel_rfl) (fun hc => ?_) (fun hc => ?_)
      · have hlt : i < m := by have := of_decide_eq_true hc; omega
        clear hc
        refine evC_skip ?_
        refine then_normal ?_
        refine evC_seq ?_
        refine evC_block ?_
        refine evC_seq ?_
        refine evC_go (dec := []) (ks := [(0, 0), (0, 2), (0, 3), (0, 4), (0, 5), (0, 27), (1, 0)]) (ps := [(0 : Int) ≤ (↑i : Int), (↑i : Int) < (↑m : Int), (5 : Nat) = (5 : Nat), (0 : Int) ≤ (↑i : Int), (↑i : Int) < (↑m : Int), (5 : Nat) = (5 : Nat)]) (s' := ⟨[(0, 0, Cont.cell (AV.rs 5 m false (nO w))), (0, 2, Cont.cell (AV.bool false)), (0, 3, Cont.cell (AV.vs 1)), (0, 4, Cont.cell (AV.bool b)), (0, 5, Cont.cell (AV.int IntKind.i64 (↑i : Int))), (0, 27, Cont.cell (AV.bool !frm (Prod.fst (w i)) (Prod.fst (Prod.snd (w i))) (Prod.fst (Prod.snd (Prod.snd (w i)))) (Prod.fst (Prod.snd (Prod.snd (Prod.snd (w i))))) (Prod.snd (Prod.snd (Prod.snd (Prod.snd (w i))))) == frm (Prod.fst (w i)) (Prod.fst (Prod.snd (w i))) (Prod.fst (Prod.snd (Prod.snd (w i)))) (Prod.fst (Prod.snd (Prod.snd (Prod.snd (w i))))) (Prod.snd (Prod.snd (Prod.snd (Prod.snd (w i))))))), (1, 0, Cont.vec 1 5 (11 * p) (lstU (encL w p)))], 122, 62⟩) (by kernel_rfl) (by kernel_rfl) ?_ ?_
        · (simp only [All]; (repeat' apply And.intro) <;> (try intro _) <;> (try intro _) <;> (repeat' apply And.intro) <;> (try intro _) <;> (try intro _) <;> first | trivial | assumption | exact .inr trivial | exact .inr rfl | omega | rfl | exact ⟨_, rfl, rfl⟩ | exact ⟨rfl, rfl⟩ | exact ⟨fun _ => rfl, fun _ => rfl⟩ | (unfold maxLen; omega) | (unfold i64R; first | omega | decide) | decide)
        refine evC_if (q := !frm (Prod.fst (w i)) (Prod.fst (Prod.snd (w i))) (Prod.fst (Prod.snd (Prod.snd (w i)))) (Prod.fst (Prod.snd (Prod.snd (Prod.snd (w i))))) (Prod.snd (Prod.snd (Prod.snd (Prod.snd (w i))))) == frm (Prod.fst (w i)) (Prod.fst (Prod.snd (w i))) (Prod.fst (Prod.snd (Prod.snd (w i)))) (Prod.fst (Prod.snd (Prod.snd (Prod.snd (w i))))) (Prod.snd (Prod.snd (Prod.snd (Prod.snd (w i)))))) (by kernel_rfl) (fun hc => ?_) (fun hc => ?_)
        · exfalso; simp at hc
        · clear hc
          have hstep : allO w (i + 1) = (allO w i && fO (w i)) := by
            unfold allO; rw [List.range_succ, List.all_append]; simp
          have hnext : (decide (m ≤ 64) && allO w (i + 1)) = (b && fO (w i)) := by rw [hstep, hb, Bool.and_assoc]
          cases b with
          | false =>
            refine evC_skip ?_
            refine then_normal ?_
            refine evC_go (dec := []) (ks := [(0, 0), (0, 2), (0, 3), (0, 4), (0, 5), (1, 0)]) (ps := [List.all [false] id = true → (0 : Int) ≤ (↑i : Int), List.all [false] id = true → (↑i : Int) < (↑m : Int), List.all [false] id = true → (5 : Nat) = (5 : Nat)]) (s' := ⟨[(0, 0, Cont.cell (AV.rs 5 m false (nO w))), (0, 2, Cont.cell (AV.bool false)), (0, 3, Cont.cell (AV.vs 1)), (0, 4, Cont.cell (AV.bool false)), (0, 5, Cont.cell (AV.int IntKind.i64 (↑i : Int))), (1, 0, Cont.vec 1 5 (11 * p) (lstU (encL w p)))], 194, 62⟩) (by kernel_rfl) (by kernel_rfl) ?_ ?_
            · exact ⟨fun _ => by omega, fun _ => by omega, fun _ => rfl⟩
            refine evC_go0 (dec := []) (ks := [(0, 0), (0, 2), (0, 3), (0, 4), (0, 5), (0, 36), (1, 0)]) (s' := ⟨[(0, 0, Cont.cell (AV.rs 5 m false (nO w))), (0, 2, Cont.cell (AV.bool false)), (0, 3, Cont.cell (AV.vs 1)), (0, 4, Cont.cell (AV.bool false)), (0, 5, Cont.cell (AV.int IntKind.i64 (↑i : Int))), (0, 36, Cont.cell (AV.bool false)), (1, 0, Cont.vec 1 5 (11 * p) (lstU (encL w p)))], 202, 62⟩) (by kernel_rfl) (by kernel_rfl) ?_
            refine evC_if (q := false) (by kernel_rfl) (fun hc => ?_) (fun hc => ?_)
            · cases hc
            clear hc
            refine evC_skip ?_
            refine block_normal ?_
            refine then_normal ?_
            refine evC_goL0 (dec := []) (ks := [(0, 0), (0, 2), (0, 3), (0, 4), (0, 5), (1, 0)]) (s' := ⟨[(0, 0, Cont.cell (AV.rs 5 m false (nO w))), (0, 2, Cont.cell (AV.bool false)), (0, 3, Cont.cell (AV.vs 1)), (0, 4, Cont.cell (AV.bool false)), (0, 5, Cont.cell (AV.int IntKind.i64 (IntKind.i64.wrap ((↑i : Int) + 1)))), (1, 0, Cont.vec 1 5 (11 * p) (lstU (encL w p)))], 226, 62⟩) (by kernel_rfl) (by kernel_rfl) ?_
            rw [wrap_add_one hlt (by omega)]
            refine round_normal (⟨(i + 1, p, false), hlt, by simp only; omega, by rw [hnext]; rfl, fun h => by cases h⟩) (wk_go [1] rfl (by decide) rfl rfl ⟨⟨_, rfl, rfl⟩, ⟨_, rfl, rfl⟩, ⟨_, rfl, rfl⟩, ⟨_, rfl, rfl⟩, ⟨_, rfl, rfl⟩, ⟨_, rfl, ⟨rfl, rfl, rfl, fun _ _ => rfl⟩⟩, trivial⟩) ?_
            · show m - (i + 1) < m - i; omega
          | true =>
            have hpi := hbp rfl
            subst hpi
            refine evC_skip ?_
            refine then_normal ?_
            refine evC_go (dec := []) (ks := [(0, 0), (0, 2), (0, 3), (0, 4), (0, 5), (1, 0)]) (ps := [List.all [true] id = true → (0 : Int) ≤ (↑p : Int), List.all [true] id = true → (↑p : Int) < (↑m : Int), List.all [true] id = true → (5 : Nat) = (5 : Nat)]) (s' := ⟨[(0, 0, Cont.cell (AV.rs 5 m false (nO w))), (0, 2, Cont.cell (AV.bool false)), (0, 3, Cont.cell (AV.vs 1)), (0, 4, Cont.cell (AV.bool (frm (Prod.fst (w p)) (Prod.fst (Prod.snd (w p))) (Prod.fst (Prod.snd (Prod.snd (w p)))) (Prod.fst (Prod.snd (Prod.snd (Prod.snd (w p))))) (Prod.snd (Prod.snd (Prod.snd (Prod.snd (w p)))))))), (0, 5, Cont.cell (AV.int IntKind.i64 (↑p : Int))), (1, 0, Cont.vec 1 5 (11 * p) (lstU (encL w p)))], 194, 62⟩) (by kernel_rfl) (by kernel_rfl) ?_ ?_
            · exact ⟨fun _ => by omega, fun _ => by omega, fun _ => rfl⟩
            refine evC_go0 (dec := []) (ks := [(0, 0), (0, 2), (0, 3), (0, 4), (0, 5), (0, 36), (1, 0)]) (s' := ⟨[(0, 0, Cont.cell (AV.rs 5 m false (nO w))), (0, 2, Cont.cell (AV.bool false)), (0, 3, Cont.cell (AV.vs 1)), (0, 4, Cont.cell (AV.bool (frm (Prod.fst (w p)) (Prod.fst (Prod.snd (w p))) (Prod.fst (Prod.snd (Prod.snd (w p)))) (Prod.fst (Prod.snd (Prod.snd (Prod.snd (w p))))) (Prod.snd (Prod.snd (Prod.snd (Prod.snd (w p)))))))), (0, 5, Cont.cell (AV.int IntKind.i64 (↑p : Int))), (0, 36, Cont.cell (AV.bool (frm (Prod.fst (w p)) (Prod.fst (Prod.snd (w p))) (Prod.fst (Prod.snd (Prod.snd (w p)))) (Prod.fst (Prod.snd (Prod.snd (Prod.snd (w p))))) (Prod.snd (Prod.snd (Prod.snd (Prod.snd (w p)))))))), (1, 0, Cont.vec 1 5 (11 * p) (lstU (encL w p)))], 202, 62⟩) (by kernel_rfl) (by kernel_rfl) ?_
            refine evC_if (q := frm (Prod.fst (w p)) (Prod.fst (Prod.snd (w p))) (Prod.fst (Prod.snd (Prod.snd (w p)))) (Prod.fst (Prod.snd (Prod.snd (Prod.snd (w p))))) (Prod.snd (Prod.snd (Prod.snd (Prod.snd (w p)))))) (by kernel_rfl) (fun hc => ?_) (fun hc => ?_)
            · have hf : fO (w p) = true := hc
              have hr := fO_rng hf
              clear hc
              refine evC_goL (dec := []) (ks := [(0, 0), (0, 2), (0, 3), (0, 4), (0, 5), (250, 0)]) (ps := [(0 : Int) ≤ (↑p : Int), (↑p : Int) < (↑m : Int), (5 : Nat) = (5 : Nat), (0 : Int) ≤ Prod.fst (Prod.snd (w p)) ∧ Prod.fst (Prod.snd (w p)) ≤ (9223372036854775807 : Int) ∧ (0 : Int) ≤ Prod.snd (Prod.snd (Prod.snd (Prod.snd (w p)))) ∧ Prod.snd (Prod.snd (Prod.snd (Prod.snd (w p)))) ≤ (9223372036854775807 : Int), ((11 : Nat) * p + (11 : Nat)) * (1 : Nat) ≤ (140737488355328 : Nat), (11 : Nat) * p + (11 : Nat) ≤ maxLen, (11 : Nat) = (0 : Nat) ∨ (1 : Nat) = (1 : Nat), (1 : Nat) = (1 : Nat), (5 : Nat) = (5 : Nat)]) (s' := ⟨[(0, 0, Cont.cell (AV.rs 5 m false (nO w))), (0, 2, Cont.cell (AV.bool false)), (0, 3, Cont.cell (AV.vs 250)), (0, 4, Cont.cell (AV.bool (frm (Prod.fst (w p)) (Prod.fst (Prod.snd (w p))) (Prod.fst (Prod.snd (Prod.snd (w p)))) (Prod.fst (Prod.snd (Prod.snd (Prod.snd (w p))))) (Prod.snd (Prod.snd (Prod.snd (Prod.snd (w p)))))))), (0, 5, Cont.cell (AV.int IntKind.i64 (↑p : Int))), (250, 0, Cont.vec 1 5 (11 * p + 11) (catF (11 * p) (lstU (encL w p)) (lstU (orB (Prod.fst (w p), Prod.fst (Prod.snd (w p)), Prod.fst (Prod.snd (Prod.snd (w p))), Prod.fst (Prod.snd (Prod.snd (Prod.snd (w p)))), Prod.snd (Prod.snd (Prod.snd (Prod.snd (w p)))))))))], 266, 62⟩) (by kernel_rfl) (by kernel_rfl) ?_ ?_
              · (simp only [All]; (repeat' apply And.intro) <;> (try intro _) <;> (try intro _) <;> (repeat' apply And.intro) <;> (try intro _) <;> (try intro _) <;> first | trivial | assumption | exact .inr trivial | exact .inr rfl | omega | rfl | exact ⟨_, rfl, rfl⟩ | exact ⟨rfl, rfl⟩ | exact ⟨fun _ => rfl, fun _ => rfl⟩ | (unfold maxLen; omega) | (unfold i64R; first | omega | decide) | decide)
              refine block_normal ?_
              refine then_normal ?_
              refine evC_goL0 (dec := []) (ks := [(0, 0), (0, 2), (0, 3), (0, 4), (0, 5), (250, 0)]) (s' := ⟨[(0, 0, Cont.cell (AV.rs 5 m false (nO w))), (0, 2, Cont.cell (AV.bool false)), (0, 3, Cont.cell (AV.vs 250)), (0, 4, Cont.cell (AV.bool (frm (Prod.fst (w p)) (Prod.fst (Prod.snd (w p))) (Prod.fst (Prod.snd (Prod.snd (w p)))) (Prod.fst (Prod.snd (Prod.snd (Prod.snd (w p))))) (Prod.snd (Prod.snd (Prod.snd (Prod.snd (w p)))))))), (0, 5, Cont.cell (AV.int IntKind.i64 (IntKind.i64.wrap ((↑p : Int) + 1)))), (250, 0, Cont.vec 1 5 (11 * p + 11) (catF (11 * p) (lstU (encL w p)) (lstU (orB (Prod.fst (w p), Prod.fst (Prod.snd (w p)), Prod.fst (Prod.snd (Prod.snd (w p))), Prod.fst (Prod.snd (Prod.snd (Prod.snd (w p)))), Prod.snd (Prod.snd (Prod.snd (Prod.snd (w p)))))))))], 290, 62⟩) (by kernel_rfl) (by kernel_rfl) ?_
              rw [wrap_add_one hlt (by omega)]
              refine round_normal (⟨(p + 1, p + 1, true), hlt, by simp only; omega, by rw [hnext, hf]; rfl, fun h => rfl⟩) (wk_go [250] rfl (by decide) rfl rfl ⟨⟨_, rfl, rfl⟩, ⟨_, rfl, rfl⟩, ⟨_, rfl, rfl⟩, ⟨_, rfl, ?_⟩, ⟨_, rfl, rfl⟩, ⟨_, rfl, ?_⟩, trivial⟩) ?_
              · exact congrArg AV.bool hf
              · refine ⟨rfl, rfl, by show _ = 11 * (p + 1); omega, fun y hy => ?_⟩
                have hy' : y < 11 * (p + 1) := hy
                exact lst_cat (l := encL w p) (m := orB (w p)) (encL_len w p) (fun _ _ => rfl) (fun _ _ => rfl) y (by show y < 11 * p + 11; omega)
              · show m - (p + 1) < m - p; omega
            · have hf : fO (w p) = false := hc
              refine evC_skip ?_
              refine block_normal ?_
              refine then_normal ?_
              refine evC_goL0 (dec := []) (ks := [(0, 0), (0, 2), (0, 3), (0, 4), (0, 5), (1, 0)]) (s' := ⟨[(0, 0, Cont.cell (AV.rs 5 m false (nO w))), (0, 2, Cont.cell (AV.bool false)), (0, 3, Cont.cell (AV.vs 1)), (0, 4, Cont.cell (AV.bool (frm (Prod.fst (w p)) (Prod.fst (Prod.snd (w p))) (Prod.fst (Prod.snd (Prod.snd (w p)))) (Prod.fst (Prod.snd (Prod.snd (Prod.snd (w p))))) (Prod.snd (Prod.snd (Prod.snd (Prod.snd (w p)))))))), (0, 5, Cont.cell (AV.int IntKind.i64 (IntKind.i64.wrap ((↑p : Int) + 1)))), (1, 0, Cont.vec 1 5 (11 * p) (lstU (encL w p)))], 226, 62⟩) (by kernel_rfl) (by kernel_rfl) ?_
              rw [wrap_add_one hlt (by omega)]
              refine round_normal (⟨(p + 1, p, false), hlt, by simp only; omega, by rw [hnext, hf]; rfl, fun h => by cases h⟩) (wk_go [1] rfl (by decide) rfl rfl ⟨⟨_, rfl, rfl⟩, ⟨_, rfl, rfl⟩, ⟨_, rfl, rfl⟩, ⟨_, rfl, ?_⟩, ⟨_, rfl, rfl⟩, ⟨_, rfl, ⟨rfl, rfl, rfl, fun _ _ => rfl⟩⟩, trivial⟩) ?_
              · exact congrArg AV.bool hf
              · show m - (p + 1) < m - p; omega
      · have hlt : i = m := by have := of_decide_eq_false hc; omega
        subst hlt
        clear hc
        have hE : okE i w = b := hb.symm
        have hO : O (nO w) = w := O_nO w
        unfold maxLen at h2
        refine evC_exit ?_
        refine then_exit ?_
        refine round_exit ?_
        refine block_exit ?_
        refine then_normal ?_
        refine evC_seq ?_
        refine evC_go0 (dec := []) (ks := [(0, 0), (0, 2), (0, 3), (0, 45), (1, 0)]) (s' := ⟨[(0, 0, Cont.cell (AV.rs 5 i false (nO w))), (0, 2, Cont.cell (AV.bool false)), (0, 3, Cont.cell (AV.vs 1)), (0, 45, Cont.cell (AV.bool !b)), (1, 0, Cont.vec 1 5 (11 * p) (lstU (encL w p)))], 50, 62⟩) (by kernel_rfl) (by kernel_rfl) ?_
        refine evC_if (q := !b) (by kernel_rfl) (fun hc => ?_) (fun hc => ?_)
        · have hb0 : b = false := (Bool.not_eq_true' _).mp hc
          rw [hb0] at hE
          refine evC_go (dec := []) (ks := [(0, 0), (0, 2), (0, 3), (1, 0)]) (ps := [(∀ (i_1 : Nat), i_1 < i → nO w i_1 = nO (O (nO w)) i_1) ∧ i ≤ maxLen]) (s' := ⟨[(0, 0, Cont.cell (AV.rs 5 i false (nO w))), (0, 2, Cont.cell (AV.bool (bif (↑(bif okE i (O (nO w)) then 11 * i else 0) : Int) == 0 then true else false))), (0, 3, Cont.cell (AV.vs 1)), (1, 0, Cont.vec 1 5 (11 * p) (lstU (encL w p)))], 114, 62⟩) (by kernel_rfl) (by kernel_rfl) ?_ ?_
          · exact ⟨fun _ _ => rfl, by unfold maxLen; omega⟩
          refine evC_ret ?_
          refine then_ret ?_
          refine post_ret ?_
          refine ends_flat (vs := [AV.bool (bif (↑(bif okE i (O (nO w)) then 11 * i else 0) : Int) == 0 then true else false)]) (Nat.zero_lt_succ _) (by kernel_rfl) (flat_of _ (by kernel_rfl)) rfl ?_
          rw [hO, hE]; rfl
        · have hb0 : b = true := (Bool.not_eq_false' _).mp hc
          rw [hb0] at hE
          have hpi := hbp hb0
          subst hpi
          refine evC_skip ?_
          refine then_normal ?_
          refine evC_go (dec := []) (ks := [(0, 2)]) (ps := [(∀ (i : Nat), i < p → nO w i = nO (O (nO w)) i) ∧ p ≤ maxLen, (bif okE p (O (nO w)) then (11 : Nat) * p else (0 : Nat)) = (0 : Nat) ∨ (1 : Nat) = (1 : Nat), ∀ (i : Nat), (i < bif okE p (O (nO w)) then (11 : Nat) * p else (0 : Nat)) → lstU (encL (O (nO w)) p) i = AV.int IntKind.u8 (iv (lstU (encL (O (nO w)) p) i)), (11 : Nat) * p = (0 : Nat) ∨ (1 : Nat) = (1 : Nat), ∀ (i : Nat), i < (11 : Nat) * p → lstU (encL w p) i = AV.int IntKind.u8 (iv (lstU (encL w p) i))]) (s' := ⟨[(0, 2, Cont.cell (AV.bool (bif ByteArray.toList (mkStr (bif okE p (O (nO w)) then 11 * p else 0) (lstU (encL (O (nO w)) p))) == ByteArray.toList (mkStr (11 * p) (lstU (encL w p))) then true else false)))], 130, 62⟩) (by kernel_rfl) (by kernel_rfl) ?_ ?_
          · exact ⟨⟨fun _ _ => rfl, by unfold maxLen; omega⟩, .inr rfl, fun _ _ => rfl, .inr rfl, fun _ _ => rfl⟩
          refine evC_ret ?_
          refine post_ret ?_
          refine ends_flat (vs := [AV.bool (bif ByteArray.toList (mkStr (bif okE p (O (nO w)) then 11 * p else 0) (lstU (encL (O (nO w)) p))) == ByteArray.toList (mkStr (11 * p) (lstU (encL w p))) then true else false)]) (Nat.zero_lt_succ _) (by kernel_rfl) (flat_of _ (by kernel_rfl)) rfl ?_
          rw [hO, hE]
          simp [oneAV]
    · cases e
  · cases e
end Go.Eng.S22
