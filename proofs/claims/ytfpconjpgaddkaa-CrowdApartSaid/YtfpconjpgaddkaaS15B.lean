/- Seat 15: who settles where, walked. -/
import Derived.Test.YtfpconjpgaddkaaEngX
import Derived.Test.YtfpconjpgaddkaaS15P
set_option linter.unusedSimpArgs false
set_option linter.unusedVariables false
namespace Go.Eng.S15
open Go.Proofs Go.IntWalk
set_option maxRecDepth 10000

def errN (e : Int) (n : Nat) : Nat := bif e == 0 then n else 0
theorem errN_no {e : Int} (h : (e != 0) = true) (n : Nat) : errN e n = 0 := by
  have : (e == 0) = false := by simpa [bne] using h
  unfold errN; rw [this]; rfl
theorem errN_yes {e : Int} (h : (e != 0) = false) (n : Nat) : errN e n = n := by
  have : (e == 0) = true := by simpa [bne] using h
  unfold errN; rw [this]; rfl

theorem W_nI (w : Nat → Int) : W (nI w) = w := rfl
theorem G_nB (w : Nat → Bool) : G (nB w) = w := rfl
def sSettle : Spec := fun args hr nb => match args with
  | [.int .i64 c, o, v, u] => match sl 1 hr o, sl 1 hr v, sl 1 hr u with
    | some (no, g, rg), some (n, f, rd), some (m, f2, rd2) => some ⟨[(∀ i, i < no → g i = nB (G g) i) ∧ (∀ i, i < n → f i = nI (W f) i) ∧ (∀ i, i < m → f2 i = nI (W f2) i) ∧ no ≤ maxLen ∧ n ≤ maxLen ∧ m ≤ maxLen],
      .tup [.vs nb, .vs (nb + 1), .int .i64 (chkF c no n m (W f) (W f2))], rg ++ (rd ++ rd2),
      [(nb, 0, .vec 1 3 (errN (chkF c no n m (W f) (W f2)) n) (nI (setF (G g) (W f2) n (W f)).1)), (nb + 1, 0, .vec 1 4 (errN (chkF c no n m (W f) (W f2)) n) (nB (setF (G g) (W f2) n (W f)).2))]⟩
    | _, _, _ => none
  | _ => none
theorem settle_ok : SpecOK Try.prog 12 sSettle := by
  refine spec_own (by kernel_rfl) T_ok (sget_cons check_ok (sget_cons stand_ok sget_nil)) Try.func12 rfl rfl fun args hr nb out e => ?_
  unfold sSettle at e
  split at e
  · rename_i c o v u
    split at e
    · rename_i no g rg n f rd m f2 rd2 hs0 hs1 hs2
      injection e with e; subst e
      refine ⟨fun x hx => (List.mem_append.1 hx).elim (sl_rd hs0 x) fun hx => (List.mem_append.1 hx).elim (sl_rd hs1 x) (sl_rd hs2 x), false, [.int .i64 c, .rs 1 no false (nB (G g)), .rs 1 n false (nI (W f)), .rs 1 m false (nI (W f2))], rfl, fun hs => ?_⟩
      obtain ⟨h0, h1, h2, h3, h4, h5⟩ := hs _ List.mem_cons_self
      refine ⟨.cons _ _ _ _ (.same _ _ (.int _ _)) (.cons _ _ _ _ (.slice _ _ _ _ _ hs0 (fun y hy => ⟨List.mem_append_left _ hy, by simp⟩) _ fun i hi => ⟨h0 i hi, (nB_flat _ i).has⟩)
        (.cons _ _ _ _ (.slice _ _ _ _ _ hs1 (fun y hy => ⟨List.mem_append_right _ (List.mem_append_left _ hy), by simp⟩) _ fun i hi => ⟨h1 i hi, (nI_flat _ i).has⟩)
        (.cons _ _ _ _ (.slice _ _ _ _ _ hs2 (fun y hy => ⟨List.mem_append_right _ (List.mem_append_right _ hy), by simp⟩) _ fun i hi => ⟨h2 i hi, (nI_flat _ i).has⟩) .nil))), ?_⟩
      clear hs h0 h1 h2
      unfold maxLen at h3 h4 h5
      generalize W f = w
      generalize W f2 = x
      generalize G g = q
      refine evC_go0 (dec := []) (ks := [(0, 0), (0, 1), (0, 2), (0, 3), (0, 8), (0, 9), (0, 10)]) (s' := ⟨[(0, 0, Cont.cell (AV.int IntKind.i64 c)), (0, 1, Cont.cell (AV.rs 1 no false (nB q))), (0, 2, Cont.cell (AV.rs 1 n false (nI w))), (0, 3, Cont.cell (AV.rs 1 m false (nI x))), (0, 8, Cont.cell AV.nils), (0, 9, Cont.cell AV.nils), (0, 10, Cont.cell (AV.int IntKind.i64 0))], 25, 89⟩) (by kernel_rfl) (by kernel_rfl) ?_
      refine evC_seq ?_
      refine evC_go (dec := []) (ks := [(0, 1), (0, 2), (0, 3), (0, 8), (0, 9), (0, 10), (0, 11)]) (ps := [(∀ (i : Nat), i < no → nB q i = nB (G (nB q)) i) ∧ (∀ (i : Nat), i < n → nI w i = nI (W (nI w)) i) ∧ (∀ (i : Nat), i < m → nI x i = nI (W (nI x)) i) ∧ no ≤ maxLen ∧ n ≤ maxLen ∧ m ≤ maxLen]) (s' := ⟨[(0, 1, Cont.cell (AV.rs 1 no false (nB q))), (0, 2, Cont.cell (AV.rs 1 n false (nI w))), (0, 3, Cont.cell (AV.rs 1 m false (nI x))), (0, 8, Cont.cell AV.nils), (0, 9, Cont.cell AV.nils), (0, 10, Cont.cell (AV.int IntKind.i64 0)), (0, 11, Cont.cell (AV.int IntKind.i64 (chkF c no n m (W (nI w)) (W (nI x)))))], 73, 89⟩) (by kernel_rfl) (by kernel_rfl) ?_ ?_
      · (simp only [All]; (repeat' apply And.intro) <;> (try intro _) <;> (try intro _) <;> (repeat' apply And.intro) <;> (try intro _) <;> (try intro _) <;> first | trivial | assumption | exact .inr trivial | exact .inr rfl | omega | rfl | exact ⟨_, rfl, rfl⟩ | exact ⟨rfl, rfl⟩ | exact ⟨fun _ => rfl, fun _ => rfl⟩ | (unfold maxLen; omega) | (unfold i64R; first | omega | decide) | decide)
      rw [W_nI w, W_nI x]
      refine evC_go0 (dec := []) (ks := [(0, 1), (0, 2), (0, 3), (0, 8), (0, 9), (0, 10), (0, 11), (0, 25)]) (s' := ⟨[(0, 1, Cont.cell (AV.rs 1 no false (nB q))), (0, 2, Cont.cell (AV.rs 1 n false (nI w))), (0, 3, Cont.cell (AV.rs 1 m false (nI x))), (0, 8, Cont.cell AV.nils), (0, 9, Cont.cell AV.nils), (0, 10, Cont.cell (AV.int IntKind.i64 0)), (0, 11, Cont.cell (AV.int IntKind.i64 (chkF c no n m w x))), (0, 25, Cont.cell (AV.bool (chkF c no n m w x != 0)))], 89, 89⟩) (by kernel_rfl) (by kernel_rfl) ?_
      refine evC_if (q := chkF c no n m w x != 0) (by kernel_rfl) (fun hc => ?_) (fun hc => ?_)
      · rw [errN_no hc]
        refine evC_go0 (dec := []) (ks := [(0, 1), (0, 2), (0, 3), (0, 8), (0, 9), (0, 10)]) (s' := ⟨[(0, 1, Cont.cell (AV.rs 1 no false (nB q))), (0, 2, Cont.cell (AV.rs 1 n false (nI w))), (0, 3, Cont.cell (AV.rs 1 m false (nI x))), (0, 8, Cont.cell AV.nils), (0, 9, Cont.cell AV.nils), (0, 10, Cont.cell (AV.int IntKind.i64 (chkF c no n m w x)))], 121, 89⟩) (by kernel_rfl) (by kernel_rfl) ?_
        refine evC_wk _ (.nil 0 8 1 3 (fun _ => .nils) (Nat.le_of_ble_eq_true rfl) rfl) ?_
        refine evC_wk _ (.nil 0 9 1 4 (fun _ => .nils) (Nat.le_of_ble_eq_true rfl) rfl) ?_
        refine evC_ret ?_
        refine then_ret ?_
        refine post_ret ?_
        refine ends_go [121, 122] (AV.tup [AV.vs 1, AV.vs 2, AV.int IntKind.i64 (chkF c no n m w x)]) [(1, 0, Cont.vec 1 3 0 fun x => AV.nils), (2, 0, Cont.vec 1 4 0 fun x => AV.nils)] rfl (by decide) rfl rfl (has_of _ rfl) rfl ⟨⟨_, rfl, ⟨rfl, rfl, rfl, fun _ _ => rfl⟩⟩, ⟨_, rfl, ⟨rfl, rfl, rfl, fun _ _ => rfl⟩⟩, trivial⟩ ⟨⟨1, _, rfl, rfl, rfl, ⟨rfl, rfl, rfl, fun _ hi => absurd hi (Nat.not_lt_zero _)⟩⟩, ⟨2, _, rfl, rfl, rfl, ⟨rfl, rfl, rfl, fun _ hi => absurd hi (Nat.not_lt_zero _)⟩⟩, trivial⟩ (kept_nil _)
      · rw [errN_yes hc]
        have hz : chkF c no n m w x = 0 := by simpa [bne] using hc
        rw [hz]
        obtain ⟨⟨a1, a2, a3, a4, a5⟩, b1, b2⟩ := chk_zero hz
        clear hc
        refine evC_skip ?_
        refine then_normal ?_
        refine evC_go (dec := []) (ks := [(0, 1), (0, 2), (0, 3), (0, 8), (0, 9), (0, 10), (97, 0)]) (ps := [n * (8 : Nat) ≤ (140737488355328 : Nat), n ≤ maxLen, n = (0 : Nat) ∨ (1 : Nat) = (1 : Nat)]) (s' := ⟨[(0, 1, Cont.cell (AV.rs 1 no false (nB q))), (0, 2, Cont.cell (AV.vs 97)), (0, 3, Cont.cell (AV.rs 1 m false (nI x))), (0, 8, Cont.cell AV.nils), (0, 9, Cont.cell AV.nils), (0, 10, Cont.cell (AV.int IntKind.i64 0)), (97, 0, Cont.vec 1 3 n (nI w))], 113, 89⟩) (by kernel_rfl) (by kernel_rfl) ?_ ?_
        · (simp only [All]; (repeat' apply And.intro) <;> (try intro _) <;> (try intro _) <;> (repeat' apply And.intro) <;> (try intro _) <;> (try intro _) <;> first | trivial | assumption | exact .inr trivial | exact .inr rfl | omega | rfl | exact ⟨_, rfl, rfl⟩ | exact ⟨rfl, rfl⟩ | exact ⟨fun _ => rfl, fun _ => rfl⟩ | (unfold maxLen; omega) | (unfold i64R; first | omega | decide) | decide)
        refine evC_go (dec := []) (ks := [(0, 1), (0, 2), (0, 3), (0, 8), (0, 9), (0, 10), (0, 12), (97, 0), (129, 0)]) (ps := [(0 : Int) ≤ (↑n : Int), (↑n : Int) = (↑n : Int), (↑(1 : Nat) : Int) * (↑n : Int) ≤ (281474976710656 : Int), (↑n : Int) ≤ (9223372036854775807 : Int)]) (s' := ⟨[(0, 1, Cont.cell (AV.rs 1 no false (nB q))), (0, 2, Cont.cell (AV.vs 97)), (0, 3, Cont.cell (AV.rs 1 m false (nI x))), (0, 8, Cont.cell AV.nils), (0, 9, Cont.cell AV.nils), (0, 10, Cont.cell (AV.int IntKind.i64 0)), (0, 12, Cont.cell (AV.vs 129)), (97, 0, Cont.vec 1 3 n (nI w)), (129, 0, Cont.vec 1 4 n fun x => AV.bool false)], 145, 89⟩) (by kernel_rfl) (by kernel_rfl) ?_ ?_
        · (simp only [All]; (repeat' apply And.intro) <;> (try intro _) <;> (try intro _) <;> (repeat' apply And.intro) <;> (try intro _) <;> (try intro _) <;> first | trivial | assumption | exact .inr trivial | exact .inr rfl | omega | rfl | exact ⟨_, rfl, rfl⟩ | exact ⟨rfl, rfl⟩ | exact ⟨fun _ => rfl, fun _ => rfl⟩ | (unfold maxLen; omega) | (unfold i64R; first | omega | decide) | decide)
        refine evC_go (dec := []) (ks := [(0, 1), (0, 2), (0, 3), (0, 8), (0, 9), (0, 10), (0, 12), (0, 13), (97, 0), (129, 0), (153, 0)]) (ps := [(∀ (i : Nat), i < n → nI w i = nI (W (nI w)) i) ∧ n ≤ maxLen]) (s' := ⟨[(0, 1, Cont.cell (AV.rs 1 no false (nB q))), (0, 2, Cont.cell (AV.vs 97)), (0, 3, Cont.cell (AV.rs 1 m false (nI x))), (0, 8, Cont.cell AV.nils), (0, 9, Cont.cell AV.nils), (0, 10, Cont.cell (AV.int IntKind.i64 0)), (0, 12, Cont.cell (AV.vs 129)), (0, 13, Cont.cell (AV.mp 153)), (97, 0, Cont.vec 1 3 n (nI w)), (129, 0, Cont.vec 1 4 n fun x => AV.bool false), (153, 0, Cont.map 1 (stE (W (nI w)) n))], 169, 89⟩) (by kernel_rfl) (by kernel_rfl) ?_ ?_
        · (simp only [All]; (repeat' apply And.intro) <;> (try intro _) <;> (try intro _) <;> (repeat' apply And.intro) <;> (try intro _) <;> (try intro _) <;> first | trivial | assumption | exact .inr trivial | exact .inr rfl | omega | rfl | exact ⟨_, rfl, rfl⟩ | exact ⟨rfl, rfl⟩ | exact ⟨fun _ => rfl, fun _ => rfl⟩ | (unfold maxLen; omega) | (unfold i64R; first | omega | decide) | decide)
        rw [W_nI w]
        have hfl := stE_flat w n
        refine evC_seq ?_
        refine evC_go0 (dec := []) (ks := [(0, 1), (0, 2), (0, 3), (0, 8), (0, 9), (0, 10), (0, 12), (0, 13), (0, 14), (97, 0), (129, 0), (153, 0)]) (s' := ⟨[(0, 1, Cont.cell (AV.rs 1 no false (nB q))), (0, 2, Cont.cell (AV.vs 97)), (0, 3, Cont.cell (AV.rs 1 m false (nI x))), (0, 8, Cont.cell AV.nils), (0, 9, Cont.cell AV.nils), (0, 10, Cont.cell (AV.int IntKind.i64 0)), (0, 12, Cont.cell (AV.vs 129)), (0, 13, Cont.cell (AV.mp 153)), (0, 14, Cont.cell (AV.bool true)), (97, 0, Cont.vec 1 3 n (nI w)), (129, 0, Cont.vec 1 4 n fun x => AV.bool false), (153, 0, Cont.map 1 (stE w n))], 177, 89⟩) (by kernel_rfl) (by kernel_rfl) ?_
        refine evC_block ?_
        refine evC_loop (ι := { y : (Nat × Bool) × List (List Int × AV) // Lo q x n w y.1.1 y.1.2 ∧ MI n y.2 (R q x n w y.1.1).1 }) (fun y => ⟨[(0, 1, Cont.cell (AV.rs 1 no false (nB q))), (0, 2, Cont.cell (AV.vs 1)), (0, 3, Cont.cell (AV.rs 1 m false (nI x))), (0, 8, Cont.cell AV.nils), (0, 9, Cont.cell AV.nils), (0, 10, Cont.cell (AV.int IntKind.i64 0)), (0, 12, Cont.cell (AV.vs 2)), (0, 13, Cont.cell (AV.mp 3)), (0, 14, .cell (.bool y.1.1.2)), (1, 0, .vec 1 3 n (nI (R q x n w y.1.1.1).1)), (2, 0, .vec 1 4 n (nB (R q x n w y.1.1.1).2)), (3, 0, .map 1 y.1.2)], 4, 89⟩) (fun y => bif y.1.1.2 then n + 2 - y.1.1.1 else 0) ⟨((0, true), stE w n), Lo.start w, MI.start n w⟩ (wk_go [97, 129, 153] rfl (by decide) rfl rfl ⟨⟨_, rfl, rfl⟩, ⟨_, rfl, rfl⟩, ⟨_, rfl, rfl⟩, ⟨_, rfl, rfl⟩, ⟨_, rfl, rfl⟩, ⟨_, rfl, rfl⟩, ⟨_, rfl, rfl⟩, ⟨_, rfl, rfl⟩, ⟨_, rfl, rfl⟩, ⟨_, rfl, ⟨rfl, rfl, rfl, fun _ _ => rfl⟩⟩, ⟨_, rfl, ⟨rfl, rfl, rfl, fun _ _ => rfl⟩⟩, ⟨_, rfl, cw_map (by assumption)⟩, trivial⟩) ?_
        rintro ⟨⟨⟨r, b⟩, es⟩, hL, hM⟩
        dsimp only at hL hM ⊢
        have hokR : Ok c q x n w (R q x n w r) := (Ok.start hz).rnds (fun i hi => ⟨(b1 i hi).2.2.1, (b1 i hi).2.2.2⟩) r
        refine evC_seq ?_
        refine evC_go0 (dec := []) (ks := [(0, 1), (0, 2), (0, 3), (0, 8), (0, 9), (0, 10), (0, 12), (0, 13), (0, 14), (0, 34), (1, 0), (2, 0), (3, 0)]) (s' := ⟨[(0, 1, Cont.cell (AV.rs 1 no false (nB q))), (0, 2, Cont.cell (AV.vs 1)), (0, 3, Cont.cell (AV.rs 1 m false (nI x))), (0, 8, Cont.cell AV.nils), (0, 9, Cont.cell AV.nils), (0, 10, Cont.cell (AV.int IntKind.i64 0)), (0, 12, Cont.cell (AV.vs 2)), (0, 13, Cont.cell (AV.mp 3)), (0, 14, Cont.cell (AV.bool b)), (0, 34, Cont.cell (AV.bool b)), (1, 0, Cont.vec 1 3 n (nI (Prod.fst (R q x n w r)))), (2, 0, Cont.vec 1 4 n (nB (Prod.snd (R q x n w r)))), (3, 0, Cont.map 1 es)], 12, 89⟩) (by kernel_rfl) (by kernel_rfl) ?_
        refine evC_if (q := b) (by kernel_rfl) (fun hc => ?_) (fun hc => ?_)
        · -- a round
          subst hc
          have hr := hL.next
          have hflR := hM.fl.flat
          refine evC_skip ?_
          refine then_normal ?_
          refine evC_block ?_
          refine evC_go0 (dec := []) (ks := [(0, 1), (0, 2), (0, 3), (0, 8), (0, 9), (0, 10), (0, 12), (0, 13), (0, 14), (1, 0), (2, 0), (3, 0)]) (s' := ⟨[(0, 1, Cont.cell (AV.rs 1 no false (nB q))), (0, 2, Cont.cell (AV.vs 1)), (0, 3, Cont.cell (AV.rs 1 m false (nI x))), (0, 8, Cont.cell AV.nils), (0, 9, Cont.cell AV.nils), (0, 10, Cont.cell (AV.int IntKind.i64 0)), (0, 12, Cont.cell (AV.vs 2)), (0, 13, Cont.cell (AV.mp 3)), (0, 14, Cont.cell (AV.bool false)), (1, 0, Cont.vec 1 3 n (nI (Prod.fst (R q x n w r)))), (2, 0, Cont.vec 1 4 n (nB (Prod.snd (R q x n w r)))), (3, 0, Cont.map 1 es)], 20, 89⟩) (by kernel_rfl) (by kernel_rfl) ?_
          refine evC_go0 (dec := []) (ks := [(0, 1), (0, 2), (0, 3), (0, 8), (0, 9), (0, 10), (0, 12), (0, 13), (0, 14), (0, 35), (0, 36), (0, 37), (1, 0), (2, 0), (3, 0)]) (s' := ⟨[(0, 1, Cont.cell (AV.rs 1 no false (nB q))), (0, 2, Cont.cell (AV.vs 1)), (0, 3, Cont.cell (AV.rs 1 m false (nI x))), (0, 8, Cont.cell AV.nils), (0, 9, Cont.cell AV.nils), (0, 10, Cont.cell (AV.int IntKind.i64 0)), (0, 12, Cont.cell (AV.vs 2)), (0, 13, Cont.cell (AV.mp 3)), (0, 14, Cont.cell (AV.bool false)), (0, 35, Cont.cell (AV.rs 1 m false (nI x))), (0, 36, Cont.cell (AV.int IntKind.i64 (↑m : Int))), (0, 37, Cont.cell (AV.int IntKind.i64 0)), (1, 0, Cont.vec 1 3 n (nI (Prod.fst (R q x n w r)))), (2, 0, Cont.vec 1 4 n (nB (Prod.snd (R q x n w r)))), (3, 0, Cont.map 1 es)], 44, 89⟩) (by kernel_rfl) (by kernel_rfl) ?_
          refine evC_block ?_
          refine evC_loop (ι := { z : Nat × List (List Int × AV) // z.1 ≤ n ∧ MI n z.2 (part q x n (R q x n w r) z.1).1 }) (fun z => ⟨[(0, 1, Cont.cell (AV.rs 1 no false (nB q))), (0, 2, Cont.cell (AV.vs 1)), (0, 3, Cont.cell (AV.rs 1 m false (nI x))), (0, 8, Cont.cell AV.nils), (0, 9, Cont.cell AV.nils), (0, 10, Cont.cell (AV.int IntKind.i64 0)), (0, 12, Cont.cell (AV.vs 2)), (0, 13, Cont.cell (AV.mp 3)), (0, 14, .cell (.bool (chg q x n (R q x n w r) z.1.1))), (0, 35, Cont.cell (AV.rs 1 m false (nI x))), (0, 36, Cont.cell (AV.int IntKind.i64 (↑m : Int))), (0, 37, .cell (.int .i64 (z.1.1 : Nat))), (1, 0, .vec 1 3 n (nI (part q x n (R q x n w r) z.1.1).1)), (2, 0, .vec 1 4 n (nB (part q x n (R q x n w r) z.1.1).2)), (3, 0, .map 1 z.1.2)], 4, 89⟩) (fun z => n - z.1.1) ⟨(0, es), Nat.zero_le _, hM⟩ (wk_go [1, 2, 3] rfl (by decide) rfl rfl ⟨⟨_, rfl, rfl⟩, ⟨_, rfl, rfl⟩, ⟨_, rfl, rfl⟩, ⟨_, rfl, rfl⟩, ⟨_, rfl, rfl⟩, ⟨_, rfl, rfl⟩, ⟨_, rfl, rfl⟩, ⟨_, rfl, rfl⟩, ⟨_, rfl, rfl⟩, ⟨_, rfl, rfl⟩, ⟨_, rfl, rfl⟩, ⟨_, rfl, rfl⟩, ⟨_, rfl, ⟨rfl, rfl, rfl, fun _ _ => rfl⟩⟩, ⟨_, rfl, ⟨rfl, rfl, rfl, fun _ _ => rfl⟩⟩, ⟨_, rfl, cw_map (by assumption)⟩, trivial⟩) ?_
          rintro ⟨⟨k, fs⟩, hk, hN⟩
          dsimp only at hk hN ⊢
          have hok := hokR.part (fun i hi => ⟨(b1 i hi).2.2.1, (b1 i hi).2.2.2⟩) hk
          have hpk : part q x n (R q x n w r) (k + 1) = st1 q x n (part q x n (R q x n w r) k) k := rfl
          have hck : chg q x n (R q x n w r) (k + 1) = (chg q x n (R q x n w r) k || go1 q x n (part q x n (R q x n w r) k) k) := rfl
          generalize hsd : part q x n (R q x n w r) k = s at *
          have hflN := hN.fl.flat
          refine evC_go0 (dec := []) (ks := [(0, 1), (0, 2), (0, 3), (0, 8), (0, 9), (0, 10), (0, 12), (0, 13), (0, 14), (0, 35), (0, 36), (0, 37), (0, 38), (1, 0), (2, 0), (3, 0)]) (s' := ⟨[(0, 1, Cont.cell (AV.rs 1 no false (nB q))), (0, 2, Cont.cell (AV.vs 1)), (0, 3, Cont.cell (AV.rs 1 m false (nI x))), (0, 8, Cont.cell AV.nils), (0, 9, Cont.cell AV.nils), (0, 10, Cont.cell (AV.int IntKind.i64 0)), (0, 12, Cont.cell (AV.vs 2)), (0, 13, Cont.cell (AV.mp 3)), (0, 14, Cont.cell (AV.bool (chg q x n (R q x n w r) k))), (0, 35, Cont.cell (AV.rs 1 m false (nI x))), (0, 36, Cont.cell (AV.int IntKind.i64 (↑m : Int))), (0, 37, Cont.cell (AV.int IntKind.i64 (↑k : Int))), (0, 38, Cont.cell (AV.bool (decide ((↑k : Int) < (↑m : Int))))), (1, 0, Cont.vec 1 3 n (nI (Prod.fst s))), (2, 0, Cont.vec 1 4 n (nB (Prod.snd s))), (3, 0, Cont.map 1 fs)], 12, 89⟩) (by kernel_rfl) (by kernel_rfl) ?_
          refine evC_seq ?_
          refine evC_if (q := decide ((↑k : Int) < (↑m : Int))) (by kernel_rfl) (fun hc => ?_) (fun hc => ?_)
          · have hlt : k < n := by have := of_decide_eq_true hc; omega
            clear hc
            refine evC_skip ?_
            refine then_normal ?_
            refine evC_seq ?_
            refine evC_block ?_
            refine evC_go (dec := []) (ks := [(0, 1), (0, 2), (0, 3), (0, 8), (0, 9), (0, 10), (0, 12), (0, 13), (0, 14), (0, 15), (0, 16), (0, 35), (0, 36), (0, 37), (1, 0), (2, 0), (3, 0)]) (ps := [(0 : Int) ≤ (↑k : Int), (↑k : Int) < (↑m : Int), (1 : Nat) = (1 : Nat)]) (s' := ⟨[(0, 1, Cont.cell (AV.rs 1 no false (nB q))), (0, 2, Cont.cell (AV.vs 1)), (0, 3, Cont.cell (AV.rs 1 m false (nI x))), (0, 8, Cont.cell AV.nils), (0, 9, Cont.cell AV.nils), (0, 10, Cont.cell (AV.int IntKind.i64 0)), (0, 12, Cont.cell (AV.vs 2)), (0, 13, Cont.cell (AV.mp 3)), (0, 14, Cont.cell (AV.bool (chg q x n (R q x n w r) k))), (0, 15, Cont.cell (AV.int IntKind.i64 (↑k : Int))), (0, 16, Cont.cell (AV.int IntKind.i64 (x k))), (0, 35, Cont.cell (AV.rs 1 m false (nI x))), (0, 36, Cont.cell (AV.int IntKind.i64 (↑m : Int))), (0, 37, Cont.cell (AV.int IntKind.i64 (↑k : Int))), (1, 0, Cont.vec 1 3 n (nI (Prod.fst s))), (2, 0, Cont.vec 1 4 n (nB (Prod.snd s))), (3, 0, Cont.map 1 fs)], 52, 89⟩) (by kernel_rfl) (by kernel_rfl) ?_ ?_
            · (simp only [All]; (repeat' apply And.intro) <;> (try intro _) <;> (try intro _) <;> (repeat' apply And.intro) <;> (try intro _) <;> (try intro _) <;> first | trivial | assumption | exact .inr trivial | exact .inr rfl | omega | rfl | exact ⟨_, rfl, rfl⟩ | exact ⟨rfl, rfl⟩ | exact ⟨fun _ => rfl, fun _ => rfl⟩ | (unfold maxLen; omega) | (unfold i64R; first | omega | decide) | decide)
            have hb := b1 k hlt
            have hg : ∀ b : Bool, [!bif b then true else x k == -1].all id = true → 0 ≤ x k ∧ x k < (no : Int) := by
              intro b h
              cases b with
              | true => simp at h
              | false => simp at h; omega
            have hgo : go1 q x n s k = (!(bif bif bif s.2 k then true else s.1 k == -1 then true else x k == -1 then true else !q (x k).toNat) && !occ n s.1 (x k)) := by
              unfold go1
              cases s.2 k <;> cases h1 : (s.1 k == -1) <;> cases h2 : (x k == -1) <;> cases q (x k).toNat <;> simp [bne, h1, h2]
            refine evC_seq ?_
            refine evC_go (dec := []) (ks := [(0, 1), (0, 2), (0, 3), (0, 8), (0, 9), (0, 10), (0, 12), (0, 13), (0, 14), (0, 15), (0, 16), (0, 35), (0, 36), (0, 37), (0, 63), (1, 0), (2, 0), (3, 0)]) (ps := [(0 : Int) ≤ (↑k : Int), (↑k : Int) < (↑n : Int), (1 : Nat) = (1 : Nat), (0 : Int) ≤ (↑k : Int), (↑k : Int) < (↑n : Int), (1 : Nat) = (1 : Nat), List.all [!Prod.snd s k] id = true → (0 : Int) ≤ (↑k : Int), List.all [!Prod.snd s k] id = true → (↑k : Int) < (↑n : Int), List.all [!Prod.snd s k] id = true → (1 : Nat) = (1 : Nat), List.all [!Prod.snd s k] id = true → (0 : Int) ≤ (↑k : Int), List.all [!Prod.snd s k] id = true → (↑k : Int) < (↑n : Int), List.all [!Prod.snd s k] id = true → (1 : Nat) = (1 : Nat), List.all [!bif bif Prod.snd s k then true else Prod.fst s k == (-1 : Int) then true else x k == (-1 : Int)] id = true → (0 : Int) ≤ x k, List.all [!bif bif Prod.snd s k then true else Prod.fst s k == (-1 : Int) then true else x k == (-1 : Int)] id = true → x k < (↑no : Int), List.all [!bif bif Prod.snd s k then true else Prod.fst s k == (-1 : Int) then true else x k == (-1 : Int)] id = true → (1 : Nat) = (1 : Nat)]) (s' := ⟨[(0, 1, Cont.cell (AV.rs 1 no false (nB q))), (0, 2, Cont.cell (AV.vs 1)), (0, 3, Cont.cell (AV.rs 1 m false (nI x))), (0, 8, Cont.cell AV.nils), (0, 9, Cont.cell AV.nils), (0, 10, Cont.cell (AV.int IntKind.i64 0)), (0, 12, Cont.cell (AV.vs 2)), (0, 13, Cont.cell (AV.mp 3)), (0, 14, Cont.cell (AV.bool (chg q x n (R q x n w r) k))), (0, 15, Cont.cell (AV.int IntKind.i64 (↑k : Int))), (0, 16, Cont.cell (AV.int IntKind.i64 (x k))), (0, 35, Cont.cell (AV.rs 1 m false (nI x))), (0, 36, Cont.cell (AV.int IntKind.i64 (↑m : Int))), (0, 37, Cont.cell (AV.int IntKind.i64 (↑k : Int))), (0, 63, Cont.cell (AV.bool (bif bif bif Prod.snd s k then true else Prod.fst s k == -1 then true else x k == -1 then true else !q (Int.toNat (x k))))), (1, 0, Cont.vec 1 3 n (nI (Prod.fst s))), (2, 0, Cont.vec 1 4 n (nB (Prod.snd s))), (3, 0, Cont.map 1 fs)], 228, 89⟩) (by kernel_rfl) (by kernel_rfl) ?_ ?_
            · simp only [All]
              repeat' apply And.intro
              all_goals first | trivial | omega | (intro h; trivial) | (intro h; omega) | (intro h; exact (hg _ h).1) | (intro h; exact (hg _ h).2)
            refine evC_if (q := bif bif bif Prod.snd s k then true else Prod.fst s k == -1 then true else x k == -1 then true else !q (Int.toNat (x k))) (by kernel_rfl) (fun hc => ?_) (fun hc => ?_)
            · rw [hc] at hgo
              have hgo : go1 q x n s k = false := hgo
              refine evC_exit ?_
              refine then_exit ?_
              refine block_exit ?_
              refine then_normal ?_
              refine evC_goL0 (dec := []) (ks := [(0, 1), (0, 2), (0, 3), (0, 8), (0, 9), (0, 10), (0, 12), (0, 13), (0, 14), (0, 35), (0, 36), (0, 37), (1, 0), (2, 0), (3, 0)]) (s' := ⟨[(0, 1, Cont.cell (AV.rs 1 no false (nB q))), (0, 2, Cont.cell (AV.vs 1)), (0, 3, Cont.cell (AV.rs 1 m false (nI x))), (0, 8, Cont.cell AV.nils), (0, 9, Cont.cell AV.nils), (0, 10, Cont.cell (AV.int IntKind.i64 0)), (0, 12, Cont.cell (AV.vs 2)), (0, 13, Cont.cell (AV.mp 3)), (0, 14, Cont.cell (AV.bool (chg q x n (R q x n w r) k))), (0, 35, Cont.cell (AV.rs 1 m false (nI x))), (0, 36, Cont.cell (AV.int IntKind.i64 (↑m : Int))), (0, 37, Cont.cell (AV.int IntKind.i64 (IntKind.i64.wrap ((↑k : Int) + 1)))), (1, 0, Cont.vec 1 3 n (nI (Prod.fst s))), (2, 0, Cont.vec 1 4 n (nB (Prod.snd s))), (3, 0, Cont.map 1 fs)], 244, 89⟩) (by kernel_rfl) (by kernel_rfl) ?_
              rw [wrap_add_one hlt (by omega)]
              have e1 : part q x n (R q x n w r) (k + 1) = s := by rw [hpk, st1_no hgo]
              refine round_normal (⟨(k + 1, fs), by omega, by rw [e1]; exact hN⟩) (wk_go [1, 2, 3] rfl (by decide) rfl rfl ⟨⟨_, rfl, rfl⟩, ⟨_, rfl, rfl⟩, ⟨_, rfl, rfl⟩, ⟨_, rfl, rfl⟩, ⟨_, rfl, rfl⟩, ⟨_, rfl, rfl⟩, ⟨_, rfl, rfl⟩, ⟨_, rfl, rfl⟩, ⟨_, rfl, ?_⟩, ⟨_, rfl, rfl⟩, ⟨_, rfl, rfl⟩, ⟨_, rfl, rfl⟩, ⟨_, rfl, ?_⟩, ⟨_, rfl, ?_⟩, ⟨_, rfl, cw_map (by assumption)⟩, trivial⟩) ?_
              · show AV.bool _ = AV.bool _
                rw [hck, hgo, Bool.or_false]
              · rw [e1]; exact ⟨rfl, rfl, rfl, fun _ _ => rfl⟩
              · rw [e1]; exact ⟨rfl, rfl, rfl, fun _ _ => rfl⟩
              · show n - (k + 1) < n - k; omega
            · rw [hc] at hgo
              have hgo : go1 q x n s k = !occ n s.1 (x k) := hgo
              have hx1 : x k ≠ -1 := by
                intro e
                rw [e] at hc
                cases h : (bif s.2 k then true else s.1 k == -1) <;> simp [h] at hc
              rw [← hN.occ hx1] at hgo
              clear hc
              refine evC_skip ?_
              refine then_normal ?_
              refine evC_seq ?_
              refine evC_go (dec := []) (ks := [(0, 1), (0, 2), (0, 3), (0, 8), (0, 9), (0, 10), (0, 12), (0, 13), (0, 14), (0, 15), (0, 16), (0, 18), (0, 35), (0, 36), (0, 37), (1, 0), (2, 0), (3, 0)]) (ps := [Option.getD (mget fs [x k]) (AV.int IntKind.i64 (0 : Int)) = AV.int IntKind.i64 (iv (Option.getD (mget fs [x k]) (AV.int IntKind.i64 (0 : Int))))]) (s' := ⟨[(0, 1, Cont.cell (AV.rs 1 no false (nB q))), (0, 2, Cont.cell (AV.vs 1)), (0, 3, Cont.cell (AV.rs 1 m false (nI x))), (0, 8, Cont.cell AV.nils), (0, 9, Cont.cell AV.nils), (0, 10, Cont.cell (AV.int IntKind.i64 0)), (0, 12, Cont.cell (AV.vs 2)), (0, 13, Cont.cell (AV.mp 3)), (0, 14, Cont.cell (AV.bool (chg q x n (R q x n w r) k))), (0, 15, Cont.cell (AV.int IntKind.i64 (↑k : Int))), (0, 16, Cont.cell (AV.int IntKind.i64 (x k))), (0, 18, Cont.cell (AV.bool (Option.isSome (mget fs [x k])))), (0, 35, Cont.cell (AV.rs 1 m false (nI x))), (0, 36, Cont.cell (AV.int IntKind.i64 (↑m : Int))), (0, 37, Cont.cell (AV.int IntKind.i64 (↑k : Int))), (1, 0, Cont.vec 1 3 n (nI (Prod.fst s))), (2, 0, Cont.vec 1 4 n (nB (Prod.snd s))), (3, 0, Cont.map 1 fs)], 292, 89⟩) (by kernel_rfl) (by kernel_rfl) ?_ ?_
              · exact hN.fl.get [x k] 0
              refine evC_go0 (dec := []) (ks := [(0, 1), (0, 2), (0, 3), (0, 8), (0, 9), (0, 10), (0, 12), (0, 13), (0, 14), (0, 15), (0, 16), (0, 35), (0, 36), (0, 37), (0, 70), (1, 0), (2, 0), (3, 0)]) (s' := ⟨[(0, 1, Cont.cell (AV.rs 1 no false (nB q))), (0, 2, Cont.cell (AV.vs 1)), (0, 3, Cont.cell (AV.rs 1 m false (nI x))), (0, 8, Cont.cell AV.nils), (0, 9, Cont.cell AV.nils), (0, 10, Cont.cell (AV.int IntKind.i64 0)), (0, 12, Cont.cell (AV.vs 2)), (0, 13, Cont.cell (AV.mp 3)), (0, 14, Cont.cell (AV.bool (chg q x n (R q x n w r) k))), (0, 15, Cont.cell (AV.int IntKind.i64 (↑k : Int))), (0, 16, Cont.cell (AV.int IntKind.i64 (x k))), (0, 35, Cont.cell (AV.rs 1 m false (nI x))), (0, 36, Cont.cell (AV.int IntKind.i64 (↑m : Int))), (0, 37, Cont.cell (AV.int IntKind.i64 (↑k : Int))), (0, 70, Cont.cell (AV.bool (Option.isSome (mget fs [x k])))), (1, 0, Cont.vec 1 3 n (nI (Prod.fst s))), (2, 0, Cont.vec 1 4 n (nB (Prod.snd s))), (3, 0, Cont.map 1 fs)], 300, 89⟩) (by kernel_rfl) (by kernel_rfl) ?_
              refine evC_if (q := Option.isSome (mget fs [x k])) (by kernel_rfl) (fun hc => ?_) (fun hc => ?_)
              · rw [hc] at hgo
                have hgo : go1 q x n s k = false := hgo
                refine evC_exit ?_
                refine then_exit ?_
                refine block_exit ?_
                refine then_normal ?_
                refine evC_goL0 (dec := []) (ks := [(0, 1), (0, 2), (0, 3), (0, 8), (0, 9), (0, 10), (0, 12), (0, 13), (0, 14), (0, 35), (0, 36), (0, 37), (1, 0), (2, 0), (3, 0)]) (s' := ⟨[(0, 1, Cont.cell (AV.rs 1 no false (nB q))), (0, 2, Cont.cell (AV.vs 1)), (0, 3, Cont.cell (AV.rs 1 m false (nI x))), (0, 8, Cont.cell AV.nils), (0, 9, Cont.cell AV.nils), (0, 10, Cont.cell (AV.int IntKind.i64 0)), (0, 12, Cont.cell (AV.vs 2)), (0, 13, Cont.cell (AV.mp 3)), (0, 14, Cont.cell (AV.bool (chg q x n (R q x n w r) k))), (0, 35, Cont.cell (AV.rs 1 m false (nI x))), (0, 36, Cont.cell (AV.int IntKind.i64 (↑m : Int))), (0, 37, Cont.cell (AV.int IntKind.i64 (IntKind.i64.wrap ((↑k : Int) + 1)))), (1, 0, Cont.vec 1 3 n (nI (Prod.fst s))), (2, 0, Cont.vec 1 4 n (nB (Prod.snd s))), (3, 0, Cont.map 1 fs)], 316, 89⟩) (by kernel_rfl) (by kernel_rfl) ?_
                rw [wrap_add_one hlt (by omega)]
                have e1 : part q x n (R q x n w r) (k + 1) = s := by rw [hpk, st1_no hgo]
                refine round_normal (⟨(k + 1, fs), by omega, by rw [e1]; exact hN⟩) (wk_go [1, 2, 3] rfl (by decide) rfl rfl ⟨⟨_, rfl, rfl⟩, ⟨_, rfl, rfl⟩, ⟨_, rfl, rfl⟩, ⟨_, rfl, rfl⟩, ⟨_, rfl, rfl⟩, ⟨_, rfl, rfl⟩, ⟨_, rfl, rfl⟩, ⟨_, rfl, rfl⟩, ⟨_, rfl, ?_⟩, ⟨_, rfl, rfl⟩, ⟨_, rfl, rfl⟩, ⟨_, rfl, rfl⟩, ⟨_, rfl, ?_⟩, ⟨_, rfl, ?_⟩, ⟨_, rfl, cw_map (by assumption)⟩, trivial⟩) ?_
                · show AV.bool _ = AV.bool _
                  rw [hck, hgo, Bool.or_false]
                · rw [e1]; exact ⟨rfl, rfl, rfl, fun _ _ => rfl⟩
                · rw [e1]; exact ⟨rfl, rfl, rfl, fun _ _ => rfl⟩
                · show n - (k + 1) < n - k; omega
              · rw [hc] at hgo
                have hgo : go1 q x n s k = true := hgo
                refine evC_skip ?_
                refine then_normal ?_
                refine evC_go (dec := []) (ks := [(0, 1), (0, 2), (0, 3), (0, 8), (0, 9), (0, 10), (0, 12), (0, 13), (0, 14), (0, 15), (0, 16), (0, 35), (0, 36), (0, 37), (1, 0), (2, 0), (3, 0)]) (ps := [(0 : Int) ≤ (↑k : Int), (↑k : Int) < (↑n : Int), (1 : Nat) = (1 : Nat), (0 : Int) ≤ (↑k : Int), (↑k : Int) < (↑n : Int), (1 : Nat) = (1 : Nat)]) (s' := ⟨[(0, 1, Cont.cell (AV.rs 1 no false (nB q))), (0, 2, Cont.cell (AV.vs 1)), (0, 3, Cont.cell (AV.rs 1 m false (nI x))), (0, 8, Cont.cell AV.nils), (0, 9, Cont.cell AV.nils), (0, 10, Cont.cell (AV.int IntKind.i64 0)), (0, 12, Cont.cell (AV.vs 2)), (0, 13, Cont.cell (AV.mp 3)), (0, 14, Cont.cell (AV.bool (chg q x n (R q x n w r) k))), (0, 15, Cont.cell (AV.int IntKind.i64 (↑k : Int))), (0, 16, Cont.cell (AV.int IntKind.i64 (x k))), (0, 35, Cont.cell (AV.rs 1 m false (nI x))), (0, 36, Cont.cell (AV.int IntKind.i64 (↑m : Int))), (0, 37, Cont.cell (AV.int IntKind.i64 (↑k : Int))), (1, 0, Cont.vec 1 3 n (nI (Prod.fst s))), (2, 0, Cont.vec 1 4 n (nB (Prod.snd s))), (3, 0, Cont.map 1 (mdel fs [Prod.fst s k]))], 348, 89⟩) (by kernel_rfl) (by kernel_rfl) ?_ ?_
                · (simp only [All]; (repeat' apply And.intro) <;> (try intro _) <;> (try intro _) <;> (repeat' apply And.intro) <;> (try intro _) <;> (try intro _) <;> first | trivial | assumption | exact .inr trivial | exact .inr rfl | omega | rfl | exact ⟨_, rfl, rfl⟩ | exact ⟨rfl, rfl⟩ | exact ⟨fun _ => rfl, fun _ => rfl⟩ | (unfold maxLen; omega) | (unfold i64R; first | omega | decide) | decide)
                refine evC_go0 (dec := []) (ks := [(0, 1), (0, 2), (0, 3), (0, 8), (0, 9), (0, 10), (0, 12), (0, 13), (0, 14), (0, 15), (0, 16), (0, 35), (0, 36), (0, 37), (1, 0), (2, 0), (3, 0)]) (s' := ⟨[(0, 1, Cont.cell (AV.rs 1 no false (nB q))), (0, 2, Cont.cell (AV.vs 1)), (0, 3, Cont.cell (AV.rs 1 m false (nI x))), (0, 8, Cont.cell AV.nils), (0, 9, Cont.cell AV.nils), (0, 10, Cont.cell (AV.int IntKind.i64 0)), (0, 12, Cont.cell (AV.vs 2)), (0, 13, Cont.cell (AV.mp 3)), (0, 14, Cont.cell (AV.bool (chg q x n (R q x n w r) k))), (0, 15, Cont.cell (AV.int IntKind.i64 (↑k : Int))), (0, 16, Cont.cell (AV.int IntKind.i64 (x k))), (0, 35, Cont.cell (AV.rs 1 m false (nI x))), (0, 36, Cont.cell (AV.int IntKind.i64 (↑m : Int))), (0, 37, Cont.cell (AV.int IntKind.i64 (↑k : Int))), (1, 0, Cont.vec 1 3 n (nI (Prod.fst s))), (2, 0, Cont.vec 1 4 n (nB (Prod.snd s))), (3, 0, Cont.map 1 (mput (mdel fs [Prod.fst s k]) [x k] (AV.int IntKind.i64 (↑k : Int))))], 380, 89⟩) (by kernel_rfl) (by kernel_rfl) ?_
                refine evC_goL (dec := []) (ks := [(0, 1), (0, 2), (0, 3), (0, 8), (0, 9), (0, 10), (0, 12), (0, 13), (0, 14), (0, 35), (0, 36), (0, 37), (1, 0), (2, 0), (3, 0)]) (ps := [(0 : Int) ≤ (↑k : Int), (↑k : Int) < (↑n : Int), (1 : Nat) = (1 : Nat), (0 : Int) ≤ (↑k : Int), (↑k : Int) < (↑n : Int), (1 : Nat) = (1 : Nat), widthC (AV.cells (AV.int IntKind.i64 (x k))) = (1 : Nat), (0 : Int) ≤ (↑k : Int), (↑k : Int) < (↑n : Int), (1 : Nat) = (1 : Nat), (0 : Int) ≤ (↑k : Int), (↑k : Int) < (↑n : Int), (1 : Nat) = (1 : Nat), widthC (AV.cells (AV.bool true)) = (1 : Nat)]) (s' := ⟨[(0, 1, Cont.cell (AV.rs 1 no false (nB q))), (0, 2, Cont.cell (AV.vs 1)), (0, 3, Cont.cell (AV.rs 1 m false (nI x))), (0, 8, Cont.cell AV.nils), (0, 9, Cont.cell AV.nils), (0, 10, Cont.cell (AV.int IntKind.i64 0)), (0, 12, Cont.cell (AV.vs 2)), (0, 13, Cont.cell (AV.mp 3)), (0, 14, Cont.cell (AV.bool true)), (0, 35, Cont.cell (AV.rs 1 m false (nI x))), (0, 36, Cont.cell (AV.int IntKind.i64 (↑m : Int))), (0, 37, Cont.cell (AV.int IntKind.i64 (↑k : Int))), (1, 0, Cont.vec 1 3 n fun j => bif j == k then AV.int IntKind.i64 (x k) else nI (Prod.fst s) j), (2, 0, Cont.vec 1 4 n fun j => bif j == k then AV.bool true else nB (Prod.snd s) j), (3, 0, Cont.map 1 (mput (mdel fs [Prod.fst s k]) [x k] (AV.int IntKind.i64 (↑k : Int))))], 460, 89⟩) (by kernel_rfl) (by kernel_rfl) ?_ ?_
                · (simp only [All]; (repeat' apply And.intro) <;> (try intro _) <;> (try intro _) <;> (repeat' apply And.intro) <;> (try intro _) <;> (try intro _) <;> first | trivial | assumption | exact .inr trivial | exact .inr rfl | omega | rfl | exact ⟨_, rfl, rfl⟩ | exact ⟨rfl, rfl⟩ | exact ⟨fun _ => rfl, fun _ => rfl⟩ | (unfold maxLen; omega) | (unfold i64R; first | omega | decide) | decide)
                refine block_normal ?_
                refine then_normal ?_
                refine evC_goL0 (dec := []) (ks := [(0, 1), (0, 2), (0, 3), (0, 8), (0, 9), (0, 10), (0, 12), (0, 13), (0, 14), (0, 35), (0, 36), (0, 37), (1, 0), (2, 0), (3, 0)]) (s' := ⟨[(0, 1, Cont.cell (AV.rs 1 no false (nB q))), (0, 2, Cont.cell (AV.vs 1)), (0, 3, Cont.cell (AV.rs 1 m false (nI x))), (0, 8, Cont.cell AV.nils), (0, 9, Cont.cell AV.nils), (0, 10, Cont.cell (AV.int IntKind.i64 0)), (0, 12, Cont.cell (AV.vs 2)), (0, 13, Cont.cell (AV.mp 3)), (0, 14, Cont.cell (AV.bool true)), (0, 35, Cont.cell (AV.rs 1 m false (nI x))), (0, 36, Cont.cell (AV.int IntKind.i64 (↑m : Int))), (0, 37, Cont.cell (AV.int IntKind.i64 (IntKind.i64.wrap ((↑k : Int) + 1)))), (1, 0, Cont.vec 1 3 n fun j => bif j == k then AV.int IntKind.i64 (x k) else nI (Prod.fst s) j), (2, 0, Cont.vec 1 4 n fun j => bif j == k then AV.bool true else nB (Prod.snd s) j), (3, 0, Cont.map 1 (mput (mdel fs [Prod.fst s k]) [x k] (AV.int IntKind.i64 (↑k : Int))))], 476, 89⟩) (by kernel_rfl) (by kernel_rfl) ?_
                rw [wrap_add_one hlt (by omega)]
                have e1 : part q x n (R q x n w r) (k + 1) = (fun j => bif j == k then x k else s.1 j, fun j => bif j == k then true else s.2 j) := by rw [hpk, st1_yes hgo]
                have hM2 := hN.go hok hlt hgo (k : Nat)
                rw [← hpk] at hM2
                have hflM := hM2.fl.flat
                refine round_normal (⟨(k + 1, mput (mdel fs [s.1 k]) [x k] (.int .i64 (k : Nat))), by omega, hM2⟩) (wk_go [1, 2, 3] rfl (by decide) rfl rfl ⟨⟨_, rfl, rfl⟩, ⟨_, rfl, rfl⟩, ⟨_, rfl, rfl⟩, ⟨_, rfl, rfl⟩, ⟨_, rfl, rfl⟩, ⟨_, rfl, rfl⟩, ⟨_, rfl, rfl⟩, ⟨_, rfl, rfl⟩, ⟨_, rfl, ?_⟩, ⟨_, rfl, rfl⟩, ⟨_, rfl, rfl⟩, ⟨_, rfl, rfl⟩, ⟨_, rfl, ?_⟩, ⟨_, rfl, ?_⟩, ⟨_, rfl, cw_map (by assumption)⟩, trivial⟩) ?_
                · show AV.bool _ = AV.bool _
                  rw [hck, hgo, Bool.or_true]
                · rw [e1]; exact ⟨rfl, rfl, rfl, fun j hj => by
                    show (bif j == k then AV.int .i64 (x k) else AV.int .i64 (s.1 j)) = AV.int .i64 (bif j == k then x k else s.1 j)
                    cases j == k <;> rfl⟩
                · rw [e1]; exact ⟨rfl, rfl, rfl, fun j hj => by
                    show (bif j == k then AV.bool true else AV.bool (s.2 j)) = AV.bool (bif j == k then true else s.2 j)
                    cases j == k <;> rfl⟩
                · show n - (k + 1) < n - k; omega
          · have hlt : k = n := by have := of_decide_eq_false hc; omega
            subst hlt
            clear hc
            have e1 : R q x k w (r + 1) = s := hsd
            refine evC_exit ?_
            refine then_exit ?_
            refine round_exit ?_
            refine block_exit ?_
            refine block_normal ?_
            refine round_normal (⟨((r + 1, chg q x k (R q x k w r) k), fs), hr.2, by rw [e1]; exact hN⟩) (wk_go [1, 2, 3] rfl (by decide) rfl rfl ⟨⟨_, rfl, rfl⟩, ⟨_, rfl, rfl⟩, ⟨_, rfl, rfl⟩, ⟨_, rfl, rfl⟩, ⟨_, rfl, rfl⟩, ⟨_, rfl, rfl⟩, ⟨_, rfl, rfl⟩, ⟨_, rfl, rfl⟩, ⟨_, rfl, rfl⟩, ⟨_, rfl, ?_⟩, ⟨_, rfl, ?_⟩, ⟨_, rfl, cw_map (by assumption)⟩, trivial⟩) ?_
            · rw [e1]; exact ⟨rfl, rfl, rfl, fun _ _ => rfl⟩
            · rw [e1]; exact ⟨rfl, rfl, rfl, fun _ _ => rfl⟩
            · show (bif chg q x k (R q x k w r) k then k + 2 - (r + 1) else 0) < k + 2 - r
              cases chg q x k (R q x k w r) k <;> simp <;> omega
        · subst hc
          have hS := hL.stop
          rw [hS]
          refine evC_exit ?_
          refine then_exit ?_
          refine round_exit ?_
          refine block_exit ?_
          refine then_normal ?_
          refine evC_go0 (dec := []) (ks := [(0, 8), (0, 9), (0, 10), (1, 0), (2, 0)]) (s' := ⟨[(0, 8, Cont.cell (AV.vs 1)), (0, 9, Cont.cell (AV.vs 2)), (0, 10, Cont.cell (AV.int IntKind.i64 0)), (1, 0, Cont.vec 1 3 n (nI (Prod.fst (setF q x n w)))), (2, 0, Cont.vec 1 4 n (nB (Prod.snd (setF q x n w))))], 52, 89⟩) (by kernel_rfl) (by kernel_rfl) ?_
          refine evC_ret ?_
          refine post_ret ?_
          refine ends_go [1, 2] (AV.tup [AV.vs 1, AV.vs 2, AV.int IntKind.i64 0]) [(1, 0, Cont.vec 1 3 n (nI (Prod.fst (setF q x n w)))), (2, 0, Cont.vec 1 4 n (nB (Prod.snd (setF q x n w))))] rfl (by decide) rfl rfl (has_of _ rfl) rfl ⟨⟨_, rfl, ⟨rfl, rfl, rfl, fun _ _ => rfl⟩⟩, ⟨_, rfl, ⟨rfl, rfl, rfl, fun _ _ => rfl⟩⟩, trivial⟩ ⟨⟨1, _, rfl, rfl, rfl, ⟨rfl, rfl, rfl, fun _ _ => ⟨has_of _ rfl, rfl⟩⟩⟩, ⟨2, _, rfl, rfl, rfl, ⟨rfl, rfl, rfl, fun _ _ => ⟨has_of _ rfl, rfl⟩⟩⟩, trivial⟩ (kept_nil _)
    · cases e
  · cases e

theorem onF_neg (w : Nat → Int) (n : Nat) (c : Int) : decide (onF w n c < 0) = !occ n w c := by
  unfold onF
  rcases fst_spec (fun j => w j == c) n with ⟨h1, h2⟩ | ⟨h1, h2, h3⟩
  · have hb : Nat.blt (fstN (fun j => w j == c) n) n = false := by
      rw [h1]; cases e : Nat.blt n n with | false => rfl | true => simp [Nat.blt_eq] at e
    have ho : occ n w c = false := by
      cases e : occ n w c with
      | false => rfl
      | true =>
        obtain ⟨j, hj, h⟩ := occ_iff.1 e
        have := h2 j hj
        simp [h] at this
    rw [hb, ho]; rfl
  · have hb : Nat.blt (fstN (fun j => w j == c) n) n = true := by simpa [Nat.blt_eq] using h1
    have ho : occ n w c = true := occ_iff.2 ⟨_, h1, by simpa using h2⟩
    rw [hb, ho, cond_true]
    have : ¬ ((fstN (fun j => w j == c) n : Nat) : Int) < 0 := by omega
    simp [this]

/-- The document's settling: of what may be. -/
def sRefSettle : Spec := fun args hr nb => match args with
  | [o, v, u] => match sl 1 hr o, sl 1 hr v, sl 1 hr u with
    | some (no, g, rg), some (n, f, rd), some (m, f2, rd2) => some ⟨[((∀ i, i < no → g i = nB (G g) i) ∧ (∀ i, i < n → f i = nI (W f) i) ∧ (∀ i, i < m → f2 i = nI (W f2) i) ∧ no ≤ maxLen ∧ n ≤ maxLen ∧ m ≤ maxLen) ∧ ∃ c, chkF c no n m (W f) (W f2) = 0],
      .tup [.vs nb, .vs (nb + 1)], rg ++ (rd ++ rd2),
      [(nb, 0, .vec 1 3 n (nI (setF (G g) (W f2) n (W f)).1)), (nb + 1, 0, .vec 1 4 n (nB (setF (G g) (W f2) n (W f)).2))]⟩
    | _, _, _ => none
  | _ => none
theorem refSettle_ok : SpecOK Try.prog 13 sRefSettle := by
  refine spec_own (by kernel_rfl) T_ok (sget_cons on_ok sget_nil) Try.func13 rfl rfl fun args hr nb out e => ?_
  unfold sRefSettle at e
  split at e
  · rename_i o v u
    split at e
    · rename_i no g rg n f rd m f2 rd2 hs0 hs1 hs2
      injection e with e; subst e
      refine ⟨fun x hx => (List.mem_append.1 hx).elim (sl_rd hs0 x) fun hx => (List.mem_append.1 hx).elim (sl_rd hs1 x) (sl_rd hs2 x), false, [.rs 1 no false (nB (G g)), .rs 1 n false (nI (W f)), .rs 1 m false (nI (W f2))], rfl, fun hs => ?_⟩
      obtain ⟨⟨h0, h1, h2, h3, h4, h5⟩, c, hz⟩ := hs _ List.mem_cons_self
      refine ⟨.cons _ _ _ _ (.slice _ _ _ _ _ hs0 (fun y hy => ⟨List.mem_append_left _ hy, by simp⟩) _ fun i hi => ⟨h0 i hi, (nB_flat _ i).has⟩)
        (.cons _ _ _ _ (.slice _ _ _ _ _ hs1 (fun y hy => ⟨List.mem_append_right _ (List.mem_append_left _ hy), by simp⟩) _ fun i hi => ⟨h1 i hi, (nI_flat _ i).has⟩)
        (.cons _ _ _ _ (.slice _ _ _ _ _ hs2 (fun y hy => ⟨List.mem_append_right _ (List.mem_append_right _ hy), by simp⟩) _ fun i hi => ⟨h2 i hi, (nI_flat _ i).has⟩) .nil)), ?_⟩
      clear hs h0 h1 h2
      unfold maxLen at h3 h4 h5
      generalize W f = w at *
      generalize W f2 = x at *
      generalize G g = q
      obtain ⟨⟨a1, a2, a3, a4, a5⟩, b1, b2⟩ := chk_zero hz
      have hx : ∀ i, i < n → -1 ≤ x i ∧ x i < c := fun i hi => ⟨(b1 i hi).2.2.1, (b1 i hi).2.2.2⟩
      refine evC_go0 (dec := []) (ks := [(0, 0), (0, 1), (0, 2), (0, 6), (0, 7)]) (s' := ⟨[(0, 0, Cont.cell (AV.rs 1 no false (nB q))), (0, 1, Cont.cell (AV.rs 1 n false (nI w))), (0, 2, Cont.cell (AV.rs 1 m false (nI x))), (0, 6, Cont.cell AV.nils), (0, 7, Cont.cell AV.nils)], 17, 79⟩) (by kernel_rfl) (by kernel_rfl) ?_
      refine evC_go (dec := []) (ks := [(0, 0), (0, 1), (0, 2), (0, 6), (0, 7), (0, 8), (33, 0)]) (ps := [((0 : Nat) + n) * (8 : Nat) ≤ (140737488355328 : Nat), (0 : Nat) + n ≤ maxLen, n = (0 : Nat) ∨ (1 : Nat) = (1 : Nat), (1 : Nat) = (1 : Nat), (3 : Nat) = (3 : Nat)]) (s' := ⟨[(0, 0, Cont.cell (AV.rs 1 no false (nB q))), (0, 1, Cont.cell (AV.rs 1 n false (nI w))), (0, 2, Cont.cell (AV.rs 1 m false (nI x))), (0, 6, Cont.cell AV.nils), (0, 7, Cont.cell AV.nils), (0, 8, Cont.cell (AV.vs 33)), (33, 0, Cont.vec 1 3 (0 + n) (catF 0 (pget []) (nI w)))], 49, 79⟩) (by kernel_rfl) (by kernel_rfl) ?_ ?_
      · (simp only [All]; (repeat' apply And.intro) <;> (try intro _) <;> (try intro _) <;> (repeat' apply And.intro) <;> (try intro _) <;> (try intro _) <;> first | trivial | assumption | exact .inr trivial | exact .inr rfl | omega | rfl | exact ⟨_, rfl, rfl⟩ | exact ⟨rfl, rfl⟩ | exact ⟨fun _ => rfl, fun _ => rfl⟩ | (unfold maxLen; omega) | (unfold i64R; first | omega | decide) | decide)
      refine evC_go (dec := []) (ks := [(0, 0), (0, 1), (0, 2), (0, 6), (0, 7), (0, 8), (0, 9), (33, 0), (65, 0)]) (ps := [(0 : Int) ≤ (↑n : Int), (↑n : Int) = (↑n : Int), (↑(1 : Nat) : Int) * (↑n : Int) ≤ (281474976710656 : Int), (↑n : Int) ≤ (9223372036854775807 : Int)]) (s' := ⟨[(0, 0, Cont.cell (AV.rs 1 no false (nB q))), (0, 1, Cont.cell (AV.rs 1 n false (nI w))), (0, 2, Cont.cell (AV.rs 1 m false (nI x))), (0, 6, Cont.cell AV.nils), (0, 7, Cont.cell AV.nils), (0, 8, Cont.cell (AV.vs 33)), (0, 9, Cont.cell (AV.vs 65)), (33, 0, Cont.vec 1 3 (0 + n) (catF 0 (pget []) (nI w))), (65, 0, Cont.vec 1 4 n fun x => AV.bool false)], 81, 79⟩) (by kernel_rfl) (by kernel_rfl) ?_ ?_
      · (simp only [All]; (repeat' apply And.intro) <;> (try intro _) <;> (try intro _) <;> (repeat' apply And.intro) <;> (try intro _) <;> (try intro _) <;> first | trivial | assumption | exact .inr trivial | exact .inr rfl | omega | rfl | exact ⟨_, rfl, rfl⟩ | exact ⟨rfl, rfl⟩ | exact ⟨fun _ => rfl, fun _ => rfl⟩ | (unfold maxLen; omega) | (unfold i64R; first | omega | decide) | decide)
      refine evC_seq ?_
      refine evC_go0 (dec := []) (ks := [(0, 0), (0, 1), (0, 2), (0, 6), (0, 7), (0, 8), (0, 9), (0, 10), (33, 0), (65, 0)]) (s' := ⟨[(0, 0, Cont.cell (AV.rs 1 no false (nB q))), (0, 1, Cont.cell (AV.rs 1 n false (nI w))), (0, 2, Cont.cell (AV.rs 1 m false (nI x))), (0, 6, Cont.cell AV.nils), (0, 7, Cont.cell AV.nils), (0, 8, Cont.cell (AV.vs 33)), (0, 9, Cont.cell (AV.vs 65)), (0, 10, Cont.cell (AV.int IntKind.i64 0)), (33, 0, Cont.vec 1 3 (0 + n) (catF 0 (pget []) (nI w))), (65, 0, Cont.vec 1 4 n fun x => AV.bool false)], 89, 79⟩) (by kernel_rfl) (by kernel_rfl) ?_
      refine evC_block ?_
      refine evC_loop (ι := { r : Nat // r ≤ n + 1 }) (fun y => ⟨[(0, 0, Cont.cell (AV.rs 1 no false (nB q))), (0, 1, Cont.cell (AV.rs 1 n false (nI w))), (0, 2, Cont.cell (AV.rs 1 m false (nI x))), (0, 6, Cont.cell AV.nils), (0, 7, Cont.cell AV.nils), (0, 8, Cont.cell (AV.vs 1)), (0, 9, Cont.cell (AV.vs 2)), (0, 10, .cell (.int .i64 (y.1 : Nat))), (1, 0, .vec 1 3 n (nI (R q x n w y.1).1)), (2, 0, .vec 1 4 n (nB (R q x n w y.1).2))], 3, 79⟩) (fun y => n + 1 - y.1) ⟨0, Nat.zero_le _⟩ (wk_go [33, 65] rfl (by decide) rfl rfl ⟨⟨_, rfl, rfl⟩, ⟨_, rfl, rfl⟩, ⟨_, rfl, rfl⟩, ⟨_, rfl, rfl⟩, ⟨_, rfl, rfl⟩, ⟨_, rfl, rfl⟩, ⟨_, rfl, rfl⟩, ⟨_, rfl, rfl⟩, ⟨_, rfl, ?_⟩, ⟨_, rfl, ⟨rfl, rfl, rfl, fun _ _ => rfl⟩⟩, trivial⟩) ?_
      · exact ⟨rfl, rfl, Nat.zero_add n, fun j hj => catF_ge (Nat.zero_le _)⟩
      rintro ⟨r, hr⟩
      dsimp only
      have hokR : Ok c q x n w (R q x n w r) := (Ok.start hz).rnds hx r
      refine evC_seq ?_
      refine evC_go0 (dec := []) (ks := [(0, 0), (0, 1), (0, 2), (0, 6), (0, 7), (0, 8), (0, 9), (0, 10), (0, 21), (1, 0), (2, 0)]) (s' := ⟨[(0, 0, Cont.cell (AV.rs 1 no false (nB q))), (0, 1, Cont.cell (AV.rs 1 n false (nI w))), (0, 2, Cont.cell (AV.rs 1 m false (nI x))), (0, 6, Cont.cell AV.nils), (0, 7, Cont.cell AV.nils), (0, 8, Cont.cell (AV.vs 1)), (0, 9, Cont.cell (AV.vs 2)), (0, 10, Cont.cell (AV.int IntKind.i64 (↑r : Int))), (0, 21, Cont.cell (AV.bool (decide ((↑r : Int) ≤ (↑n : Int))))), (1, 0, Cont.vec 1 3 n (nI (Prod.fst (R q x n w r)))), (2, 0, Cont.vec 1 4 n (nB (Prod.snd (R q x n w r))))], 35, 79⟩) (by kernel_rfl) (by kernel_rfl) ?_
      refine evC_if (q := decide ((↑r : Int) ≤ (↑n : Int))) (by kernel_rfl) (fun hc => ?_) (fun hc => ?_)
      · have hr2 : r ≤ n := by have := of_decide_eq_true hc; omega
        clear hc
        refine evC_skip ?_
        refine then_normal ?_
        refine evC_seq ?_
        refine evC_block ?_
        refine evC_go0 (dec := []) (ks := [(0, 0), (0, 1), (0, 2), (0, 6), (0, 7), (0, 8), (0, 9), (0, 10), (0, 11), (1, 0), (2, 0)]) (s' := ⟨[(0, 0, Cont.cell (AV.rs 1 no false (nB q))), (0, 1, Cont.cell (AV.rs 1 n false (nI w))), (0, 2, Cont.cell (AV.rs 1 m false (nI x))), (0, 6, Cont.cell AV.nils), (0, 7, Cont.cell AV.nils), (0, 8, Cont.cell (AV.vs 1)), (0, 9, Cont.cell (AV.vs 2)), (0, 10, Cont.cell (AV.int IntKind.i64 (↑r : Int))), (0, 11, Cont.cell (AV.int IntKind.i64 0)), (1, 0, Cont.vec 1 3 n (nI (Prod.fst (R q x n w r)))), (2, 0, Cont.vec 1 4 n (nB (Prod.snd (R q x n w r))))], 43, 79⟩) (by kernel_rfl) (by kernel_rfl) ?_
        refine evC_block ?_
        refine evC_loop (ι := { z : Nat // z ≤ n }) (fun z => ⟨[(0, 0, Cont.cell (AV.rs 1 no false (nB q))), (0, 1, Cont.cell (AV.rs 1 n false (nI w))), (0, 2, Cont.cell (AV.rs 1 m false (nI x))), (0, 6, Cont.cell AV.nils), (0, 7, Cont.cell AV.nils), (0, 8, Cont.cell (AV.vs 1)), (0, 9, Cont.cell (AV.vs 2)), (0, 10, Cont.cell (AV.int IntKind.i64 (↑r : Int))), (0, 11, .cell (.int .i64 (z.1 : Nat))), (1, 0, .vec 1 3 n (nI (part q x n (R q x n w r) z.1).1)), (2, 0, .vec 1 4 n (nB (part q x n (R q x n w r) z.1).2))], 3, 79⟩) (fun z => n - z.1) ⟨0, Nat.zero_le _⟩ (wk_go [1, 2] rfl (by decide) rfl rfl ⟨⟨_, rfl, rfl⟩, ⟨_, rfl, rfl⟩, ⟨_, rfl, rfl⟩, ⟨_, rfl, rfl⟩, ⟨_, rfl, rfl⟩, ⟨_, rfl, rfl⟩, ⟨_, rfl, rfl⟩, ⟨_, rfl, rfl⟩, ⟨_, rfl, rfl⟩, ⟨_, rfl, ⟨rfl, rfl, rfl, fun _ _ => rfl⟩⟩, ⟨_, rfl, ⟨rfl, rfl, rfl, fun _ _ => rfl⟩⟩, trivial⟩) ?_
        rintro ⟨k, hk⟩
        dsimp only at hk ⊢
        have hok := hokR.part hx hk
        have hpk : part q x n (R q x n w r) (k + 1) = st1 q x n (part q x n (R q x n w r) k) k := rfl
        generalize hsd : part q x n (R q x n w r) k = s at *
        refine evC_seq ?_
        refine evC_go0 (dec := []) (ks := [(0, 0), (0, 1), (0, 2), (0, 6), (0, 7), (0, 8), (0, 9), (0, 10), (0, 11), (0, 27), (1, 0), (2, 0)]) (s' := ⟨[(0, 0, Cont.cell (AV.rs 1 no false (nB q))), (0, 1, Cont.cell (AV.rs 1 n false (nI w))), (0, 2, Cont.cell (AV.rs 1 m false (nI x))), (0, 6, Cont.cell AV.nils), (0, 7, Cont.cell AV.nils), (0, 8, Cont.cell (AV.vs 1)), (0, 9, Cont.cell (AV.vs 2)), (0, 10, Cont.cell (AV.int IntKind.i64 (↑r : Int))), (0, 11, Cont.cell (AV.int IntKind.i64 (↑k : Int))), (0, 27, Cont.cell (AV.bool (decide ((↑k : Int) < (↑n : Int))))), (1, 0, Cont.vec 1 3 n (nI (Prod.fst s))), (2, 0, Cont.vec 1 4 n (nB (Prod.snd s)))], 35, 79⟩) (by kernel_rfl) (by kernel_rfl) ?_
        refine evC_if (q := decide ((↑k : Int) < (↑n : Int))) (by kernel_rfl) (fun hc => ?_) (fun hc => ?_)
        · have hlt : k < n := by have := of_decide_eq_true hc; omega
          clear hc
          have hb := b1 k hlt
          have hg : ∀ b : Bool, [bif b then decide (x k ≥ 0) else false].all id = true → 0 ≤ x k ∧ x k < (no : Int) := by
            intro b h
            cases b with
            | false => simp at h
            | true => simp at h; omega
          have hgo : go1 q x n s k = (bif bif bif bif decide (s.1 k ≥ 0) then !s.2 k else false then decide (x k ≥ 0) else false then q (x k).toNat else false then !occ n s.1 (x k) else false) := by
            have h1 : (s.1 k != -1) = decide (s.1 k ≥ 0) := by
              have := hok.rng k hlt
              rw [Bool.eq_iff_iff]; simp only [bne_iff_ne, ne_eq, decide_eq_true_eq]; omega
            have h2 : (x k != -1) = decide (x k ≥ 0) := by
              rw [Bool.eq_iff_iff]; simp only [bne_iff_ne, ne_eq, decide_eq_true_eq]; omega
            unfold go1
            rw [h1, h2]
            cases s.2 k <;> cases decide (s.1 k ≥ 0) <;> cases decide (x k ≥ 0) <;> cases q (x k).toNat <;> simp
          rw [← onF_neg] at hgo
          refine evC_skip ?_
          refine then_normal ?_
          refine evC_seq ?_
          refine evC_block ?_
          refine evC_go (dec := []) (ks := [(0, 0), (0, 1), (0, 2), (0, 6), (0, 7), (0, 8), (0, 9), (0, 10), (0, 11), (0, 66), (1, 0), (2, 0)]) (ps := [(0 : Int) ≤ (↑k : Int), (↑k : Int) < (↑n : Int), (1 : Nat) = (1 : Nat), (0 : Int) ≤ (↑k : Int), (↑k : Int) < (↑n : Int), (1 : Nat) = (1 : Nat), List.all [decide (Prod.fst s k ≥ (0 : Int))] id = true → (0 : Int) ≤ (↑k : Int), List.all [decide (Prod.fst s k ≥ (0 : Int))] id = true → (↑k : Int) < (↑n : Int), List.all [decide (Prod.fst s k ≥ (0 : Int))] id = true → (1 : Nat) = (1 : Nat), List.all [decide (Prod.fst s k ≥ (0 : Int))] id = true → (0 : Int) ≤ (↑k : Int), List.all [decide (Prod.fst s k ≥ (0 : Int))] id = true → (↑k : Int) < (↑n : Int), List.all [decide (Prod.fst s k ≥ (0 : Int))] id = true → (1 : Nat) = (1 : Nat), List.all [bif decide (Prod.fst s k ≥ (0 : Int)) then !Prod.snd s k else false] id = true → (0 : Int) ≤ (↑k : Int), List.all [bif decide (Prod.fst s k ≥ (0 : Int)) then !Prod.snd s k else false] id = true → (↑k : Int) < (↑m : Int), List.all [bif decide (Prod.fst s k ≥ (0 : Int)) then !Prod.snd s k else false] id = true → (1 : Nat) = (1 : Nat), List.all [bif bif decide (Prod.fst s k ≥ (0 : Int)) then !Prod.snd s k else false then decide (x k ≥ (0 : Int)) else false] id = true → (0 : Int) ≤ (↑k : Int), List.all [bif bif decide (Prod.fst s k ≥ (0 : Int)) then !Prod.snd s k else false then decide (x k ≥ (0 : Int)) else false] id = true → (↑k : Int) < (↑m : Int), List.all [bif bif decide (Prod.fst s k ≥ (0 : Int)) then !Prod.snd s k else false then decide (x k ≥ (0 : Int)) else false] id = true → (1 : Nat) = (1 : Nat), List.all [bif bif decide (Prod.fst s k ≥ (0 : Int)) then !Prod.snd s k else false then decide (x k ≥ (0 : Int)) else false] id = true → (0 : Int) ≤ x k, List.all [bif bif decide (Prod.fst s k ≥ (0 : Int)) then !Prod.snd s k else false then decide (x k ≥ (0 : Int)) else false] id = true → x k < (↑no : Int), List.all [bif bif decide (Prod.fst s k ≥ (0 : Int)) then !Prod.snd s k else false then decide (x k ≥ (0 : Int)) else false] id = true → (1 : Nat) = (1 : Nat), List.all [bif bif bif decide (Prod.fst s k ≥ (0 : Int)) then !Prod.snd s k else false then decide (x k ≥ (0 : Int)) else false then q (Int.toNat (x k)) else false] id = true → (0 : Int) ≤ (↑k : Int), List.all [bif bif bif decide (Prod.fst s k ≥ (0 : Int)) then !Prod.snd s k else false then decide (x k ≥ (0 : Int)) else false then q (Int.toNat (x k)) else false] id = true → (↑k : Int) < (↑m : Int), List.all [bif bif bif decide (Prod.fst s k ≥ (0 : Int)) then !Prod.snd s k else false then decide (x k ≥ (0 : Int)) else false then q (Int.toNat (x k)) else false] id = true → (1 : Nat) = (1 : Nat), List.all [bif bif bif decide (Prod.fst s k ≥ (0 : Int)) then !Prod.snd s k else false then decide (x k ≥ (0 : Int)) else false then q (Int.toNat (x k)) else false] id = true → (∀ (i : Nat), i < n → nI (Prod.fst s) i = nI (W (nI (Prod.fst s))) i) ∧ n ≤ maxLen]) (s' := ⟨[(0, 0, Cont.cell (AV.rs 1 no false (nB q))), (0, 1, Cont.cell (AV.rs 1 n false (nI w))), (0, 2, Cont.cell (AV.rs 1 m false (nI x))), (0, 6, Cont.cell AV.nils), (0, 7, Cont.cell AV.nils), (0, 8, Cont.cell (AV.vs 1)), (0, 9, Cont.cell (AV.vs 2)), (0, 10, Cont.cell (AV.int IntKind.i64 (↑r : Int))), (0, 11, Cont.cell (AV.int IntKind.i64 (↑k : Int))), (0, 66, Cont.cell (AV.bool (bif bif bif bif decide (Prod.fst s k ≥ 0) then !Prod.snd s k else false then decide (x k ≥ 0) else false then q (Int.toNat (x k)) else false then decide (onF (W (nI (Prod.fst s))) n (x k) < 0) else false))), (1, 0, Cont.vec 1 3 n (nI (Prod.fst s))), (2, 0, Cont.vec 1 4 n (nB (Prod.snd s)))], 331, 79⟩) (by kernel_rfl) (by kernel_rfl) ?_ ?_
          · simp only [All]
            repeat' apply And.intro
            all_goals first | trivial | omega | (intro h; trivial) | (intro h; omega) | (intro h; exact (hg _ h).1) | (intro h; exact (hg _ h).2) | exact fun _ => ⟨fun _ _ => rfl, by unfold maxLen; omega⟩
          rw [W_nI s.1]
          rw [← hgo]
          refine evC_if (q := go1 q x n s k) (by kernel_rfl) (fun hc => ?_) (fun hc => ?_)
          · have hc : go1 q x n s k = true := hc
            refine evC_go (dec := []) (ks := [(0, 0), (0, 1), (0, 2), (0, 6), (0, 7), (0, 8), (0, 9), (0, 10), (0, 11), (1, 0), (2, 0)]) (ps := [(0 : Int) ≤ (↑k : Int), (↑k : Int) < (↑m : Int), (1 : Nat) = (1 : Nat), (0 : Int) ≤ (↑k : Int), (↑k : Int) < (↑n : Int), (1 : Nat) = (1 : Nat), (0 : Int) ≤ (↑k : Int), (↑k : Int) < (↑n : Int), (1 : Nat) = (1 : Nat), widthC (AV.cells (nI x k)) = (1 : Nat)]) (s' := ⟨[(0, 0, Cont.cell (AV.rs 1 no false (nB q))), (0, 1, Cont.cell (AV.rs 1 n false (nI w))), (0, 2, Cont.cell (AV.rs 1 m false (nI x))), (0, 6, Cont.cell AV.nils), (0, 7, Cont.cell AV.nils), (0, 8, Cont.cell (AV.vs 1)), (0, 9, Cont.cell (AV.vs 2)), (0, 10, Cont.cell (AV.int IntKind.i64 (↑r : Int))), (0, 11, Cont.cell (AV.int IntKind.i64 (↑k : Int))), (1, 0, Cont.vec 1 3 n fun j => bif j == k then nI x k else nI (Prod.fst s) j), (2, 0, Cont.vec 1 4 n (nB (Prod.snd s)))], 395, 79⟩) (by kernel_rfl) (by kernel_rfl) ?_ ?_
            · (simp only [All]; (repeat' apply And.intro) <;> (try intro _) <;> (try intro _) <;> (repeat' apply And.intro) <;> (try intro _) <;> (try intro _) <;> first | trivial | assumption | exact .inr trivial | exact .inr rfl | omega | rfl | exact ⟨_, rfl, rfl⟩ | exact ⟨rfl, rfl⟩ | exact ⟨fun _ => rfl, fun _ => rfl⟩ | (unfold maxLen; omega) | (unfold i64R; first | omega | decide) | decide)
            refine evC_goL (dec := []) (ks := [(0, 0), (0, 1), (0, 2), (0, 6), (0, 7), (0, 8), (0, 9), (0, 10), (0, 11), (1, 0), (2, 0)]) (ps := [(0 : Int) ≤ (↑k : Int), (↑k : Int) < (↑n : Int), (1 : Nat) = (1 : Nat), (0 : Int) ≤ (↑k : Int), (↑k : Int) < (↑n : Int), (1 : Nat) = (1 : Nat), widthC (AV.cells (AV.bool true)) = (1 : Nat)]) (s' := ⟨[(0, 0, Cont.cell (AV.rs 1 no false (nB q))), (0, 1, Cont.cell (AV.rs 1 n false (nI w))), (0, 2, Cont.cell (AV.rs 1 m false (nI x))), (0, 6, Cont.cell AV.nils), (0, 7, Cont.cell AV.nils), (0, 8, Cont.cell (AV.vs 1)), (0, 9, Cont.cell (AV.vs 2)), (0, 10, Cont.cell (AV.int IntKind.i64 (↑r : Int))), (0, 11, Cont.cell (AV.int IntKind.i64 (↑k : Int))), (1, 0, Cont.vec 1 3 n fun j => bif j == k then nI x k else nI (Prod.fst s) j), (2, 0, Cont.vec 1 4 n fun j => bif j == k then AV.bool true else nB (Prod.snd s) j)], 427, 79⟩) (by kernel_rfl) (by kernel_rfl) ?_ ?_
            · (simp only [All]; (repeat' apply And.intro) <;> (try intro _) <;> (try intro _) <;> (repeat' apply And.intro) <;> (try intro _) <;> (try intro _) <;> first | trivial | assumption | exact .inr trivial | exact .inr rfl | omega | rfl | exact ⟨_, rfl, rfl⟩ | exact ⟨rfl, rfl⟩ | exact ⟨fun _ => rfl, fun _ => rfl⟩ | (unfold maxLen; omega) | (unfold i64R; first | omega | decide) | decide)
            refine block_normal ?_
            refine then_normal ?_
            refine evC_goL0 (dec := []) (ks := [(0, 0), (0, 1), (0, 2), (0, 6), (0, 7), (0, 8), (0, 9), (0, 10), (0, 11), (1, 0), (2, 0)]) (s' := ⟨[(0, 0, Cont.cell (AV.rs 1 no false (nB q))), (0, 1, Cont.cell (AV.rs 1 n false (nI w))), (0, 2, Cont.cell (AV.rs 1 m false (nI x))), (0, 6, Cont.cell AV.nils), (0, 7, Cont.cell AV.nils), (0, 8, Cont.cell (AV.vs 1)), (0, 9, Cont.cell (AV.vs 2)), (0, 10, Cont.cell (AV.int IntKind.i64 (↑r : Int))), (0, 11, Cont.cell (AV.int IntKind.i64 (IntKind.i64.wrap ((↑k : Int) + 1)))), (1, 0, Cont.vec 1 3 n fun j => bif j == k then nI x k else nI (Prod.fst s) j), (2, 0, Cont.vec 1 4 n fun j => bif j == k then AV.bool true else nB (Prod.snd s) j)], 451, 79⟩) (by kernel_rfl) (by kernel_rfl) ?_
            rw [wrap_add_one hlt (by omega)]
            have e1 : part q x n (R q x n w r) (k + 1) = (fun j => bif j == k then x k else s.1 j, fun j => bif j == k then true else s.2 j) := by rw [hpk, st1_yes hc]
            refine round_normal (⟨k + 1, by omega⟩) (wk_go [1, 2] rfl (by decide) rfl rfl ⟨⟨_, rfl, rfl⟩, ⟨_, rfl, rfl⟩, ⟨_, rfl, rfl⟩, ⟨_, rfl, rfl⟩, ⟨_, rfl, rfl⟩, ⟨_, rfl, rfl⟩, ⟨_, rfl, rfl⟩, ⟨_, rfl, rfl⟩, ⟨_, rfl, rfl⟩, ⟨_, rfl, ?_⟩, ⟨_, rfl, ?_⟩, trivial⟩) ?_
            · rw [e1]; exact ⟨rfl, rfl, rfl, fun j hj => by
                show (bif j == k then AV.int .i64 (x k) else AV.int .i64 (s.1 j)) = AV.int .i64 (bif j == k then x k else s.1 j)
                cases j == k <;> rfl⟩
            · rw [e1]; exact ⟨rfl, rfl, rfl, fun j hj => by
                show (bif j == k then AV.bool true else AV.bool (s.2 j)) = AV.bool (bif j == k then true else s.2 j)
                cases j == k <;> rfl⟩
            · show n - (k + 1) < n - k; omega
          · have hc : go1 q x n s k = false := hc
            refine evC_skip ?_
            refine block_normal ?_
            refine then_normal ?_
            refine evC_goL0 (dec := []) (ks := [(0, 0), (0, 1), (0, 2), (0, 6), (0, 7), (0, 8), (0, 9), (0, 10), (0, 11), (1, 0), (2, 0)]) (s' := ⟨[(0, 0, Cont.cell (AV.rs 1 no false (nB q))), (0, 1, Cont.cell (AV.rs 1 n false (nI w))), (0, 2, Cont.cell (AV.rs 1 m false (nI x))), (0, 6, Cont.cell AV.nils), (0, 7, Cont.cell AV.nils), (0, 8, Cont.cell (AV.vs 1)), (0, 9, Cont.cell (AV.vs 2)), (0, 10, Cont.cell (AV.int IntKind.i64 (↑r : Int))), (0, 11, Cont.cell (AV.int IntKind.i64 (IntKind.i64.wrap ((↑k : Int) + 1)))), (1, 0, Cont.vec 1 3 n (nI (Prod.fst s))), (2, 0, Cont.vec 1 4 n (nB (Prod.snd s)))], 355, 79⟩) (by kernel_rfl) (by kernel_rfl) ?_
            rw [wrap_add_one hlt (by omega)]
            have e1 : part q x n (R q x n w r) (k + 1) = s := by rw [hpk, st1_no hc]
            refine round_normal (⟨k + 1, by omega⟩) (wk_go [1, 2] rfl (by decide) rfl rfl ⟨⟨_, rfl, rfl⟩, ⟨_, rfl, rfl⟩, ⟨_, rfl, rfl⟩, ⟨_, rfl, rfl⟩, ⟨_, rfl, rfl⟩, ⟨_, rfl, rfl⟩, ⟨_, rfl, rfl⟩, ⟨_, rfl, rfl⟩, ⟨_, rfl, rfl⟩, ⟨_, rfl, ?_⟩, ⟨_, rfl, ?_⟩, trivial⟩) ?_
            · rw [e1]; exact ⟨rfl, rfl, rfl, fun _ _ => rfl⟩
            · rw [e1]; exact ⟨rfl, rfl, rfl, fun _ _ => rfl⟩
            · show n - (k + 1) < n - k; omega
        · have hlt : k = n := by have := of_decide_eq_false hc; omega
          subst hlt
          clear hc
          have e1 : R q x k w (r + 1) = s := hsd
          refine evC_exit ?_
          refine then_exit ?_
          refine round_exit ?_
          refine block_exit ?_
          refine block_normal ?_
          refine then_normal ?_
          refine evC_goL0 (dec := []) (ks := [(0, 0), (0, 1), (0, 2), (0, 6), (0, 7), (0, 8), (0, 9), (0, 10), (1, 0), (2, 0)]) (s' := ⟨[(0, 0, Cont.cell (AV.rs 1 no false (nB q))), (0, 1, Cont.cell (AV.rs 1 k false (nI w))), (0, 2, Cont.cell (AV.rs 1 m false (nI x))), (0, 6, Cont.cell AV.nils), (0, 7, Cont.cell AV.nils), (0, 8, Cont.cell (AV.vs 1)), (0, 9, Cont.cell (AV.vs 2)), (0, 10, Cont.cell (AV.int IntKind.i64 (IntKind.i64.wrap ((↑r : Int) + 1)))), (1, 0, Cont.vec 1 3 k (nI (Prod.fst s))), (2, 0, Cont.vec 1 4 k (nB (Prod.snd s)))], 59, 79⟩) (by kernel_rfl) (by kernel_rfl) ?_
          rw [wrap_add_one (by omega : r < k + 1) (by omega)]
          refine round_normal (⟨r + 1, by omega⟩) (wk_go [1, 2] rfl (by decide) rfl rfl ⟨⟨_, rfl, rfl⟩, ⟨_, rfl, rfl⟩, ⟨_, rfl, rfl⟩, ⟨_, rfl, rfl⟩, ⟨_, rfl, rfl⟩, ⟨_, rfl, rfl⟩, ⟨_, rfl, rfl⟩, ⟨_, rfl, rfl⟩, ⟨_, rfl, ?_⟩, ⟨_, rfl, ?_⟩, trivial⟩) ?_
          · rw [e1]; exact ⟨rfl, rfl, rfl, fun _ _ => rfl⟩
          · rw [e1]; exact ⟨rfl, rfl, rfl, fun _ _ => rfl⟩
          · show k + 1 - (r + 1) < k + 1 - r; omega
      · have hr2 : r = n + 1 := by have := of_decide_eq_false hc; omega
        subst hr2
        have e1 : R q x n w (n + 1) = setF q x n w := rfl
        rw [e1]
        refine evC_exit ?_
        refine then_exit ?_
        refine round_exit ?_
        refine block_exit ?_
        refine then_normal ?_
        refine evC_go0 (dec := []) (ks := [(0, 6), (0, 7), (1, 0), (2, 0)]) (s' := ⟨[(0, 6, Cont.cell (AV.vs 1)), (0, 7, Cont.cell (AV.vs 2)), (1, 0, Cont.vec 1 3 n (nI (Prod.fst (setF q x n w)))), (2, 0, Cont.vec 1 4 n (nB (Prod.snd (setF q x n w))))], 67, 79⟩) (by kernel_rfl) (by kernel_rfl) ?_
        refine evC_ret ?_
        refine post_ret ?_
        refine ends_go [1, 2] (AV.tup [AV.vs 1, AV.vs 2]) [(1, 0, Cont.vec 1 3 n (nI (Prod.fst (setF q x n w)))), (2, 0, Cont.vec 1 4 n (nB (Prod.snd (setF q x n w))))] rfl (by decide) rfl rfl (has_of _ rfl) rfl ⟨⟨_, rfl, ⟨rfl, rfl, rfl, fun _ _ => rfl⟩⟩, ⟨_, rfl, ⟨rfl, rfl, rfl, fun _ _ => rfl⟩⟩, trivial⟩ ⟨⟨1, _, rfl, rfl, rfl, ⟨rfl, rfl, rfl, fun _ _ => ⟨has_of _ rfl, rfl⟩⟩⟩, ⟨2, _, rfl, rfl, rfl, ⟨rfl, rfl, rfl, fun _ _ => ⟨has_of _ rfl, rfl⟩⟩⟩, trivial⟩ (kept_nil _)
    · cases e
  · cases e

/-! Are rows the same? -/
def sameF (n m : Nat) (w x : Nat → Int) : Bool := (n == m) && (List.range n).all fun i => w i == x i
def sSame : Spec := fun args hr nb => match args with
  | [v, u] => match sl 1 hr v, sl 1 hr u with
    | some (n, f, rd), some (m, f2, rd2) => some ⟨[(∀ i, i < n → f i = nI (W f) i) ∧ (∀ i, i < m → f2 i = nI (W f2) i) ∧ n ≤ maxLen ∧ m ≤ maxLen], .bool (sameF n m (W f) (W f2)), rd ++ rd2, []⟩
    | _, _ => none
  | _ => none
theorem same_ok : SpecOK Try.prog 14 sSame := by
  refine spec_own (by kernel_rfl) T_ok sget_nil Try.func14 rfl rfl fun args hr nb out e => ?_
  unfold sSame at e
  split at e
  · rename_i v u
    split at e
    · rename_i n f rd m f2 rd2 hs1 hs2
      injection e with e; subst e
      refine ⟨fun x hx => (List.mem_append.1 hx).elim (sl_rd hs1 x) (sl_rd hs2 x), false, [.rs 1 n false (nI (W f)), .rs 1 m false (nI (W f2))], rfl, fun hs => ?_⟩
      obtain ⟨h1, h2, h4, h5⟩ := hs _ List.mem_cons_self
      refine ⟨.cons _ _ _ _ (.slice _ _ _ _ _ hs1 (fun y hy => ⟨List.mem_append_left _ hy, by simp⟩) _ fun i hi => ⟨h1 i hi, (nI_flat _ i).has⟩)
        (.cons _ _ _ _ (.slice _ _ _ _ _ hs2 (fun y hy => ⟨List.mem_append_right _ hy, by simp⟩) _ fun i hi => ⟨h2 i hi, (nI_flat _ i).has⟩) .nil), ?_⟩
      clear hs h1 h2
      unfold maxLen at h4 h5
      generalize W f = w
      generalize W f2 = x
      refine evC_go0 (dec := []) (ks := [(0, 0), (0, 1), (0, 4)]) (s' := ⟨[(0, 0, Cont.cell (AV.rs 1 n false (nI w))), (0, 1, Cont.cell (AV.rs 1 m false (nI x))), (0, 4, Cont.cell (AV.bool false))], 9, 26⟩) (by kernel_rfl) (by kernel_rfl) ?_
      refine evC_seq ?_
      refine evC_go0 (dec := []) (ks := [(0, 0), (0, 1), (0, 4), (0, 10)]) (s' := ⟨[(0, 0, Cont.cell (AV.rs 1 n false (nI w))), (0, 1, Cont.cell (AV.rs 1 m false (nI x))), (0, 4, Cont.cell (AV.bool false)), (0, 10, Cont.cell (AV.bool ((↑n : Int) != (↑m : Int))))], 49, 26⟩) (by kernel_rfl) (by kernel_rfl) ?_
      refine evC_if (q := (↑n : Int) != (↑m : Int)) (by kernel_rfl) (fun hc => ?_) (fun hc => ?_)
      · have hne : ¬ n = m := by
          intro e; subst e; simp at hc
        refine evC_go0 (dec := []) (ks := [(0, 0), (0, 1), (0, 4)]) (s' := ⟨[(0, 0, Cont.cell (AV.rs 1 n false (nI w))), (0, 1, Cont.cell (AV.rs 1 m false (nI x))), (0, 4, Cont.cell (AV.bool false))], 57, 26⟩) (by kernel_rfl) (by kernel_rfl) ?_
        refine evC_ret ?_
        refine then_ret ?_
        refine post_ret ?_
        refine ends_flat (vs := [AV.bool false]) (Nat.zero_lt_succ _) (by kernel_rfl) (flat_of _ (by kernel_rfl)) rfl ?_
        have : (n == m) = false := by simpa using hne
        unfold sameF; rw [this]; rfl
      · have hnm : n = m := Int.ofNat.inj (by simpa [bne] using hc)
        subst hnm
        clear hc
        refine evC_skip ?_
        refine then_normal ?_
        refine evC_seq ?_
        refine evC_go0 (dec := []) (ks := [(0, 0), (0, 1), (0, 4), (0, 5)]) (s' := ⟨[(0, 0, Cont.cell (AV.rs 1 n false (nI w))), (0, 1, Cont.cell (AV.rs 1 n false (nI x))), (0, 4, Cont.cell (AV.bool false)), (0, 5, Cont.cell (AV.int IntKind.i64 0))], 57, 26⟩) (by kernel_rfl) (by kernel_rfl) ?_
        refine evC_block ?_
        refine evC_loop (ι := { i : Nat // i ≤ n ∧ ∀ j, j < i → (w j == x j) = true }) (fun y => ⟨[(0, 0, Cont.cell (AV.rs 1 n false (nI w))), (0, 1, Cont.cell (AV.rs 1 n false (nI x))), (0, 4, Cont.cell (AV.bool false)), (0, 5, .cell (.int .i64 (y.1 : Nat)))], 1, 26⟩) (fun y => n - y.1) ⟨0, Nat.zero_le _, fun j hj => absurd hj (Nat.not_lt_zero j)⟩ (wk_go [] rfl (by decide) rfl rfl ⟨⟨_, rfl, rfl⟩, ⟨_, rfl, rfl⟩, ⟨_, rfl, rfl⟩, ⟨_, rfl, rfl⟩, trivial⟩) ?_
        rintro ⟨i, hi, hj⟩
        refine evC_seq ?_
        refine evC_go0 (dec := []) (ks := [(0, 0), (0, 1), (0, 4), (0, 5), (0, 14)]) (s' := ⟨[(0, 0, Cont.cell (AV.rs 1 n false (nI w))), (0, 1, Cont.cell (AV.rs 1 n false (nI x))), (0, 4, Cont.cell (AV.bool false)), (0, 5, Cont.cell (AV.int IntKind.i64 (↑i : Int))), (0, 14, Cont.cell (AV.bool (decide ((↑i : Int) < (↑n : Int)))))], 33, 26⟩) (by kernel_rfl) (by kernel_rfl) ?_
        refine evC_if (q := decide ((↑i : Int) < (↑n : Int))) (by kernel_rfl) (fun hc => ?_) (fun hc => ?_)
        · have hlt : i < n := by have := of_decide_eq_true hc; omega
          clear hc
          refine evC_skip ?_
          refine then_normal ?_
          refine evC_seq ?_
          refine evC_block ?_
          refine evC_go (dec := []) (ks := [(0, 0), (0, 1), (0, 4), (0, 5), (0, 25)]) (ps := [(0 : Int) ≤ (↑i : Int), (↑i : Int) < (↑n : Int), (1 : Nat) = (1 : Nat), (0 : Int) ≤ (↑i : Int), (↑i : Int) < (↑n : Int), (1 : Nat) = (1 : Nat)]) (s' := ⟨[(0, 0, Cont.cell (AV.rs 1 n false (nI w))), (0, 1, Cont.cell (AV.rs 1 n false (nI x))), (0, 4, Cont.cell (AV.bool false)), (0, 5, Cont.cell (AV.int IntKind.i64 (↑i : Int))), (0, 25, Cont.cell (AV.bool (w i != x i)))], 105, 26⟩) (by kernel_rfl) (by kernel_rfl) ?_ ?_
          · (simp only [All]; (repeat' apply And.intro) <;> (try intro _) <;> (try intro _) <;> (repeat' apply And.intro) <;> (try intro _) <;> (try intro _) <;> first | trivial | assumption | exact .inr trivial | exact .inr rfl | omega | rfl | exact ⟨_, rfl, rfl⟩ | exact ⟨rfl, rfl⟩ | exact ⟨fun _ => rfl, fun _ => rfl⟩ | (unfold maxLen; omega) | (unfold i64R; first | omega | decide) | decide)
          refine evC_if (q := w i != x i) (by kernel_rfl) (fun hc => ?_) (fun hc => ?_)
          · have hf : (w i == x i) = false := by simpa [bne] using hc
            refine evC_go0 (dec := []) (ks := [(0, 0), (0, 1), (0, 4), (0, 5)]) (s' := ⟨[(0, 0, Cont.cell (AV.rs 1 n false (nI w))), (0, 1, Cont.cell (AV.rs 1 n false (nI x))), (0, 4, Cont.cell (AV.bool false)), (0, 5, Cont.cell (AV.int IntKind.i64 (↑i : Int)))], 113, 26⟩) (by kernel_rfl) (by kernel_rfl) ?_
            refine evC_ret ?_
            refine block_ret ?_
            refine then_ret ?_
            refine round_ret ?_
            refine block_ret ?_
            refine then_ret ?_
            refine post_ret ?_
            refine ends_flat (vs := [AV.bool false]) (Nat.zero_lt_succ _) (by kernel_rfl) (flat_of _ (by kernel_rfl)) rfl ?_
            have e1 := all_false (p := fun i => w i == x i) hlt hf
            unfold sameF; rw [e1]; simp; rfl
          · have hf : (w i == x i) = true := by simpa [bne] using hc
            refine evC_skip ?_
            refine block_normal ?_
            refine then_normal ?_
            refine evC_goL0 (dec := []) (ks := [(0, 0), (0, 1), (0, 4), (0, 5)]) (s' := ⟨[(0, 0, Cont.cell (AV.rs 1 n false (nI w))), (0, 1, Cont.cell (AV.rs 1 n false (nI x))), (0, 4, Cont.cell (AV.bool false)), (0, 5, Cont.cell (AV.int IntKind.i64 (IntKind.i64.wrap ((↑i : Int) + 1))))], 129, 26⟩) (by kernel_rfl) (by kernel_rfl) ?_
            rw [wrap_add_one hlt (by omega)]
            refine round_normal (⟨i + 1, by omega, fun j hj' => ?_⟩) (wk_go [] rfl (by decide) rfl rfl ⟨⟨_, rfl, rfl⟩, ⟨_, rfl, rfl⟩, ⟨_, rfl, rfl⟩, ⟨_, rfl, rfl⟩, trivial⟩) ?_
            · rcases Nat.lt_or_ge j i with h | h
              · exact hj j h
              · have : j = i := by omega
                subst this; exact hf
            · show n - (i + 1) < n - i; omega
        · have hlt : i = n := by have := of_decide_eq_false hc; omega
          subst hlt
          refine evC_exit ?_
          refine then_exit ?_
          refine round_exit ?_
          refine block_exit ?_
          refine then_normal ?_
          refine evC_go0 (dec := []) (ks := [(0, 4)]) (s' := ⟨[(0, 4, Cont.cell (AV.bool true))], 41, 26⟩) (by kernel_rfl) (by kernel_rfl) ?_
          refine evC_ret ?_
          refine post_ret ?_
          refine ends_flat (vs := [AV.bool true]) (Nat.zero_lt_succ _) (by kernel_rfl) (flat_of _ (by kernel_rfl)) rfl ?_
          have e1 := all_true (p := fun i => w i == x i) hj
          unfold sameF; rw [e1]; simp; rfl
    · cases e
  · cases e
end Go.Eng.S15
