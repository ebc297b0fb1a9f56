/- Seat 25: the law of live rounds, walked. -/
import Derived.Test.YtodnecfgiimclaaEngX
import Derived.Test.YtodnecfgiimclaaS25AB
import Derived.Test.YtodnecfgiimclaaS25AC
import Derived.Test.YtodnecfgiimclaaS25AD
import Derived.Test.YtodnecfgiimclaaS25AE
set_option linter.unusedSimpArgs false
set_option linter.unusedVariables false
namespace Go.Eng.S25
open Go.Proofs Go.IntWalk
set_option maxRecDepth 10000

theorem live_walk {n0 k0 r0 : Int} {nb : Nat} {sd : List Prop} : Sem Try.prog 1 (Try.f3.body.getD .skip) (Post T Try.f3 [] nb ⟨sd, .bool true, [], []⟩ true) ⟨slots0 0 [.int .i64 n0, .int .i64 k0, .int .i64 r0], 1, Try.f3.ntmps⟩ := by
  have hm : Try.prog.follows .mixedOrders = true := by kernel_rfl
  have hΓ : SpecsOK Try.prog [(8, sPeers), (15, sAwake)] := sget_cons peers_ok (sget_cons awake_ok sget_nil)
  obtain ⟨n, hn0, hn2, hn8⟩ := peersI_ok n0
  refine Sem.seq ?_
  refine Sem.of_evC hm T_ok hΓ rfl ?_
  refine evC_goL0 (dec := []) (ks := [(0, 0), (0, 1), (0, 2), (0, 6)]) (s' := ⟨[(0, 0, Cont.cell (AV.int IntKind.i64 n0)), (0, 1, Cont.cell (AV.int IntKind.i64 k0)), (0, 2, Cont.cell (AV.int IntKind.i64 r0)), (0, 6, Cont.cell (AV.bool false))], 33, 189⟩) (by kernel_rfl) (by kernel_rfl) ?_
  refine sthen_normal ?_
  refine Sem.seq ?_
  refine Sem.of_evC hm T_ok hΓ rfl ?_
  refine evC_goL0 (dec := []) (ks := [(0, 0), (0, 1), (0, 2), (0, 6)]) (s' := ⟨[(0, 0, Cont.cell (AV.int IntKind.i64 (peersI n0))), (0, 1, Cont.cell (AV.int IntKind.i64 k0)), (0, 2, Cont.cell (AV.int IntKind.i64 r0)), (0, 6, Cont.cell (AV.bool false))], 129, 189⟩) (by kernel_rfl) (by kernel_rfl) ?_
  refine sthen_normal ?_
  refine Sem.seq ?_
  refine Sem.seq ?_
  refine Sem.of_evC hm T_ok hΓ rfl ?_
  rw [hn0]
  refine evC_goL0 (dec := []) (ks := [(0, 0), (0, 1), (0, 2), (0, 6), (0, 29)]) (s' := ⟨[(0, 0, Cont.cell (AV.int IntKind.i64 (↑n : Int))), (0, 1, Cont.cell (AV.int IntKind.i64 k0)), (0, 2, Cont.cell (AV.int IntKind.i64 r0)), (0, 6, Cont.cell (AV.bool false)), (0, 29, Cont.cell (AV.bool (bif decide (k0 < 1) then true else decide (k0 > 5))))], 321, 189⟩) (by kernel_rfl) (by kernel_rfl) ?_
  refine sthen_normal ?_
  refine sem_cutS (ι := { k : Nat // 1 ≤ k ∧ k ≤ 5 }) (fun k => ⟨[(0, 0, Cont.cell (AV.int IntKind.i64 (↑n : Int))), (0, 1, .cell (.int .i64 (k.1 : Nat))), (0, 2, Cont.cell (AV.int IntKind.i64 r0)), (0, 6, Cont.cell (AV.bool false))], 1, 189⟩) ?_ ?_
  · refine sem_if (q := bif decide (k0 < 1) then true else decide (k0 > 5)) (by kernel_rfl) (fun hc => ?_) (fun hc => ?_)
    · refine Sem.of_evC hm T_ok hΓ rfl ?_
      refine evC_goL0 (dec := []) (ks := [(0, 0), (0, 1), (0, 2), (0, 6)]) (s' := ⟨[(0, 0, Cont.cell (AV.int IntKind.i64 (↑n : Int))), (0, 1, Cont.cell (AV.int IntKind.i64 2)), (0, 2, Cont.cell (AV.int IntKind.i64 r0)), (0, 6, Cont.cell (AV.bool false))], 353, 189⟩) (by kernel_rfl) (by kernel_rfl) ?_
      refine scut_normal (⟨2, by decide⟩) (Wk.imp' (wk_go [] rfl (by decide) rfl rfl ⟨⟨_, rfl, rfl⟩, ⟨_, rfl, rfl⟩, ⟨_, rfl, rfl⟩, ⟨_, rfl, rfl⟩, trivial⟩))
    · rw [cond_or, Bool.or_eq_false_iff, decide_eq_false_iff_not, decide_eq_false_iff_not] at hc
      obtain ⟨k, rfl⟩ : ∃ k : Nat, k0 = (k : Nat) := ⟨k0.toNat, by omega⟩
      refine Sem.skip ?_
      refine scut_normal (⟨k, by omega⟩) (Wk.imp' (wk_go [] rfl (by decide) rfl rfl ⟨⟨_, rfl, rfl⟩, ⟨_, rfl, rfl⟩, ⟨_, rfl, rfl⟩, ⟨_, rfl, rfl⟩, trivial⟩))
  rintro ⟨k, hk⟩
  refine Sem.seq ?_
  refine Sem.seq ?_
  refine Sem.of_evC hm T_ok hΓ rfl ?_
  refine evC_goL0 (dec := []) (ks := [(0, 0), (0, 1), (0, 2), (0, 6), (0, 35)]) (s' := ⟨[(0, 0, Cont.cell (AV.int IntKind.i64 (↑n : Int))), (0, 1, Cont.cell (AV.int IntKind.i64 (↑k : Int))), (0, 2, Cont.cell (AV.int IntKind.i64 r0)), (0, 6, Cont.cell (AV.bool false)), (0, 35, Cont.cell (AV.bool (bif decide (r0 < 0) then true else decide (r0 > 12))))], 193, 189⟩) (by kernel_rfl) (by kernel_rfl) ?_
  refine sthen_normal ?_
  refine sem_cutS (ι := { r : Nat // r ≤ 12 }) (fun r => ⟨[(0, 0, Cont.cell (AV.int IntKind.i64 (↑n : Int))), (0, 1, Cont.cell (AV.int IntKind.i64 (↑k : Int))), (0, 2, .cell (.int .i64 (r.1 : Nat))), (0, 6, Cont.cell (AV.bool false))], 1, 189⟩) ?_ ?_
  · refine sem_if (q := bif decide (r0 < 0) then true else decide (r0 > 12)) (by kernel_rfl) (fun hc => ?_) (fun hc => ?_)
    · refine Sem.of_evC hm T_ok hΓ rfl ?_
      refine evC_goL0 (dec := []) (ks := [(0, 0), (0, 1), (0, 2), (0, 6)]) (s' := ⟨[(0, 0, Cont.cell (AV.int IntKind.i64 (↑n : Int))), (0, 1, Cont.cell (AV.int IntKind.i64 (↑k : Int))), (0, 2, Cont.cell (AV.int IntKind.i64 7)), (0, 6, Cont.cell (AV.bool false))], 225, 189⟩) (by kernel_rfl) (by kernel_rfl) ?_
      refine scut_normal (⟨7, by decide⟩) (Wk.imp' (wk_go [] rfl (by decide) rfl rfl ⟨⟨_, rfl, rfl⟩, ⟨_, rfl, rfl⟩, ⟨_, rfl, rfl⟩, ⟨_, rfl, rfl⟩, trivial⟩))
    · rw [cond_or, Bool.or_eq_false_iff, decide_eq_false_iff_not, decide_eq_false_iff_not] at hc
      obtain ⟨r, rfl⟩ : ∃ r : Nat, r0 = (r : Nat) := ⟨r0.toNat, by omega⟩
      refine Sem.skip ?_
      refine scut_normal (⟨r, by omega⟩) (Wk.imp' (wk_go [] rfl (by decide) rfl rfl ⟨⟨_, rfl, rfl⟩, ⟨_, rfl, rfl⟩, ⟨_, rfl, rfl⟩, ⟨_, rfl, rfl⟩, trivial⟩))
  rintro ⟨R, hR⟩
  refine Sem.seq ?_
  refine sem_cutS (ι := Unit) (fun _ => St.app ⟨[(0, 0, .cell (.int .i64 (n : Nat))), (0, 1, .cell (.int .i64 (k : Nat))), (0, 2, .cell (.int .i64 (R : Nat))), (0, 7, .cell (.vs 28)), (0, 8, .cell (.bool true)), (28, 0, .vec 1 28 n ptF)], 2000, 189⟩ (famP (newF n) n)) ?_ ?_
  · rcases (by omega : n = 2 ∨ n = 3 ∨ n = 4 ∨ n = 5 ∨ n = 6 ∨ n = 7 ∨ n = 8) with rfl | rfl | rfl | rfl | rfl | rfl | rfl
    · refine Sem.of_evC hm T_ok (sget_cons (made_ok 2 (by decide)) sget_nil) rfl ?_
      refine evC_goL (dec := []) (ks := [(0, 0), (0, 1), (0, 2), (0, 7), (0, 8), (33, 0)] ++ (famH peerL 3 34 (newF 2) 2).map fun x => (x.1, x.2.1)) (ps := [(↑(2 : Nat) : Int) = (↑(2 : Nat) : Int)]) (s' := ⟨[(0, 0, .cell (.int .i64 (2 : Nat))), (0, 1, .cell (.int .i64 (k : Nat))), (0, 2, .cell (.int .i64 (R : Nat))), (0, 7, .cell (.vs 33)), (0, 8, .cell (.bool true))] ++ ((33, 0, .vec 1 28 2 (ptN 34)) :: famH peerL 3 34 (newF 2) 2), 225, 189⟩) (by kernel_rfl) (by kernel_rfl) rfl ?_
      exact scut_normal () (.trans (after_made (A' := [(0, 0, .cell (.int .i64 (2 : Nat))), (0, 1, .cell (.int .i64 (k : Nat))), (0, 2, .cell (.int .i64 (R : Nat))), (0, 7, .cell (.vs 28)), (0, 8, .cell (.bool true))]) (by decide) (by decide) rfl rfl ⟨⟨rfl, rfl, rfl⟩, ⟨rfl, rfl, rfl⟩, ⟨rfl, rfl, rfl⟩, ⟨rfl, rfl, rfl⟩, ⟨rfl, rfl, rfl⟩, trivial⟩ fun _ _ => rfl) (.up rfl (Nat.le_of_ble_eq_true rfl) rfl))
    · refine Sem.of_evC hm T_ok (sget_cons (made_ok 3 (by decide)) sget_nil) rfl ?_
      refine evC_goL (dec := []) (ks := [(0, 0), (0, 1), (0, 2), (0, 7), (0, 8), (33, 0)] ++ (famH peerL 3 34 (newF 3) 3).map fun x => (x.1, x.2.1)) (ps := [(↑(3 : Nat) : Int) = (↑(3 : Nat) : Int)]) (s' := ⟨[(0, 0, .cell (.int .i64 (3 : Nat))), (0, 1, .cell (.int .i64 (k : Nat))), (0, 2, .cell (.int .i64 (R : Nat))), (0, 7, .cell (.vs 33)), (0, 8, .cell (.bool true))] ++ ((33, 0, .vec 1 28 3 (ptN 34)) :: famH peerL 3 34 (newF 3) 3), 225, 189⟩) (by kernel_rfl) (by kernel_rfl) rfl ?_
      exact scut_normal () (.trans (after_made (A' := [(0, 0, .cell (.int .i64 (3 : Nat))), (0, 1, .cell (.int .i64 (k : Nat))), (0, 2, .cell (.int .i64 (R : Nat))), (0, 7, .cell (.vs 28)), (0, 8, .cell (.bool true))]) (by decide) (by decide) rfl rfl ⟨⟨rfl, rfl, rfl⟩, ⟨rfl, rfl, rfl⟩, ⟨rfl, rfl, rfl⟩, ⟨rfl, rfl, rfl⟩, ⟨rfl, rfl, rfl⟩, trivial⟩ fun _ _ => rfl) (.up rfl (Nat.le_of_ble_eq_true rfl) rfl))
    · refine Sem.of_evC hm T_ok (sget_cons (made_ok 4 (by decide)) sget_nil) rfl ?_
      refine evC_goL (dec := []) (ks := [(0, 0), (0, 1), (0, 2), (0, 7), (0, 8), (33, 0)] ++ (famH peerL 3 34 (newF 4) 4).map fun x => (x.1, x.2.1)) (ps := [(↑(4 : Nat) : Int) = (↑(4 : Nat) : Int)]) (s' := ⟨[(0, 0, .cell (.int .i64 (4 : Nat))), (0, 1, .cell (.int .i64 (k : Nat))), (0, 2, .cell (.int .i64 (R : Nat))), (0, 7, .cell (.vs 33)), (0, 8, .cell (.bool true))] ++ ((33, 0, .vec 1 28 4 (ptN 34)) :: famH peerL 3 34 (newF 4) 4), 225, 189⟩) (by kernel_rfl) (by kernel_rfl) rfl ?_
      exact scut_normal () (.trans (after_made (A' := [(0, 0, .cell (.int .i64 (4 : Nat))), (0, 1, .cell (.int .i64 (k : Nat))), (0, 2, .cell (.int .i64 (R : Nat))), (0, 7, .cell (.vs 28)), (0, 8, .cell (.bool true))]) (by decide) (by decide) rfl rfl ⟨⟨rfl, rfl, rfl⟩, ⟨rfl, rfl, rfl⟩, ⟨rfl, rfl, rfl⟩, ⟨rfl, rfl, rfl⟩, ⟨rfl, rfl, rfl⟩, trivial⟩ fun _ _ => rfl) (.up rfl (Nat.le_of_ble_eq_true rfl) rfl))
    · refine Sem.of_evC hm T_ok (sget_cons (made_ok 5 (by decide)) sget_nil) rfl ?_
      refine evC_goL (dec := []) (ks := [(0, 0), (0, 1), (0, 2), (0, 7), (0, 8), (33, 0)] ++ (famH peerL 3 34 (newF 5) 5).map fun x => (x.1, x.2.1)) (ps := [(↑(5 : Nat) : Int) = (↑(5 : Nat) : Int)]) (s' := ⟨[(0, 0, .cell (.int .i64 (5 : Nat))), (0, 1, .cell (.int .i64 (k : Nat))), (0, 2, .cell (.int .i64 (R : Nat))), (0, 7, .cell (.vs 33)), (0, 8, .cell (.bool true))] ++ ((33, 0, .vec 1 28 5 (ptN 34)) :: famH peerL 3 34 (newF 5) 5), 225, 189⟩) (by kernel_rfl) (by kernel_rfl) rfl ?_
      exact scut_normal () (.trans (after_made (A' := [(0, 0, .cell (.int .i64 (5 : Nat))), (0, 1, .cell (.int .i64 (k : Nat))), (0, 2, .cell (.int .i64 (R : Nat))), (0, 7, .cell (.vs 28)), (0, 8, .cell (.bool true))]) (by decide) (by decide) rfl rfl ⟨⟨rfl, rfl, rfl⟩, ⟨rfl, rfl, rfl⟩, ⟨rfl, rfl, rfl⟩, ⟨rfl, rfl, rfl⟩, ⟨rfl, rfl, rfl⟩, trivial⟩ fun _ _ => rfl) (.up rfl (Nat.le_of_ble_eq_true rfl) rfl))
    · refine Sem.of_evC hm T_ok (sget_cons (made_ok 6 (by decide)) sget_nil) rfl ?_
      refine evC_goL (dec := []) (ks := [(0, 0), (0, 1), (0, 2), (0, 7), (0, 8), (33, 0)] ++ (famH peerL 3 34 (newF 6) 6).map fun x => (x.1, x.2.1)) (ps := [(↑(6 : Nat) : Int) = (↑(6 : Nat) : Int)]) (s' := ⟨[(0, 0, .cell (.int .i64 (6 : Nat))), (0, 1, .cell (.int .i64 (k : Nat))), (0, 2, .cell (.int .i64 (R : Nat))), (0, 7, .cell (.vs 33)), (0, 8, .cell (.bool true))] ++ ((33, 0, .vec 1 28 6 (ptN 34)) :: famH peerL 3 34 (newF 6) 6), 225, 189⟩) (by kernel_rfl) (by kernel_rfl) rfl ?_
      exact scut_normal () (.trans (after_made (A' := [(0, 0, .cell (.int .i64 (6 : Nat))), (0, 1, .cell (.int .i64 (k : Nat))), (0, 2, .cell (.int .i64 (R : Nat))), (0, 7, .cell (.vs 28)), (0, 8, .cell (.bool true))]) (by decide) (by decide) rfl rfl ⟨⟨rfl, rfl, rfl⟩, ⟨rfl, rfl, rfl⟩, ⟨rfl, rfl, rfl⟩, ⟨rfl, rfl, rfl⟩, ⟨rfl, rfl, rfl⟩, trivial⟩ fun _ _ => rfl) (.up rfl (Nat.le_of_ble_eq_true rfl) rfl))
    · refine Sem.of_evC hm T_ok (sget_cons (made_ok 7 (by decide)) sget_nil) rfl ?_
      refine evC_goL (dec := []) (ks := [(0, 0), (0, 1), (0, 2), (0, 7), (0, 8), (33, 0)] ++ (famH peerL 3 34 (newF 7) 7).map fun x => (x.1, x.2.1)) (ps := [(↑(7 : Nat) : Int) = (↑(7 : Nat) : Int)]) (s' := ⟨[(0, 0, .cell (.int .i64 (7 : Nat))), (0, 1, .cell (.int .i64 (k : Nat))), (0, 2, .cell (.int .i64 (R : Nat))), (0, 7, .cell (.vs 33)), (0, 8, .cell (.bool true))] ++ ((33, 0, .vec 1 28 7 (ptN 34)) :: famH peerL 3 34 (newF 7) 7), 225, 189⟩) (by kernel_rfl) (by kernel_rfl) rfl ?_
      exact scut_normal () (.trans (after_made (A' := [(0, 0, .cell (.int .i64 (7 : Nat))), (0, 1, .cell (.int .i64 (k : Nat))), (0, 2, .cell (.int .i64 (R : Nat))), (0, 7, .cell (.vs 28)), (0, 8, .cell (.bool true))]) (by decide) (by decide) rfl rfl ⟨⟨rfl, rfl, rfl⟩, ⟨rfl, rfl, rfl⟩, ⟨rfl, rfl, rfl⟩, ⟨rfl, rfl, rfl⟩, ⟨rfl, rfl, rfl⟩, trivial⟩ fun _ _ => rfl) (.up rfl (Nat.le_of_ble_eq_true rfl) rfl))
    · refine Sem.of_evC hm T_ok (sget_cons (made_ok 8 (by decide)) sget_nil) rfl ?_
      refine evC_goL (dec := []) (ks := [(0, 0), (0, 1), (0, 2), (0, 7), (0, 8), (33, 0)] ++ (famH peerL 3 34 (newF 8) 8).map fun x => (x.1, x.2.1)) (ps := [(↑(8 : Nat) : Int) = (↑(8 : Nat) : Int)]) (s' := ⟨[(0, 0, .cell (.int .i64 (8 : Nat))), (0, 1, .cell (.int .i64 (k : Nat))), (0, 2, .cell (.int .i64 (R : Nat))), (0, 7, .cell (.vs 33)), (0, 8, .cell (.bool true))] ++ ((33, 0, .vec 1 28 8 (ptN 34)) :: famH peerL 3 34 (newF 8) 8), 225, 189⟩) (by kernel_rfl) (by kernel_rfl) rfl ?_
      exact scut_normal () (.trans (after_made (A' := [(0, 0, .cell (.int .i64 (8 : Nat))), (0, 1, .cell (.int .i64 (k : Nat))), (0, 2, .cell (.int .i64 (R : Nat))), (0, 7, .cell (.vs 28)), (0, 8, .cell (.bool true))]) (by decide) (by decide) rfl rfl ⟨⟨rfl, rfl, rfl⟩, ⟨rfl, rfl, rfl⟩, ⟨rfl, rfl, rfl⟩, ⟨rfl, rfl, rfl⟩, ⟨rfl, rfl, rfl⟩, trivial⟩ fun _ _ => rfl) (.up rfl (Nat.le_of_ble_eq_true rfl) rfl))
  rintro ⟨⟩
  refine Sem.seq ?_
  refine Sem.seq ?_
  refine inF hn8 rfl (Sem.of_evC hm T_ok hΓ rfl ?_)
  refine evC_goL0 (dec := []) (ks := [(0, 0), (0, 1), (0, 2), (0, 7), (0, 8), (0, 42), (28, 0)]) (s' := ⟨[(0, 0, Cont.cell (AV.int IntKind.i64 (↑n : Int))), (0, 1, Cont.cell (AV.int IntKind.i64 (↑k : Int))), (0, 2, Cont.cell (AV.int IntKind.i64 (↑R : Int))), (0, 7, Cont.cell (AV.vs 28)), (0, 8, Cont.cell (AV.bool true)), (0, 42, Cont.cell (AV.bool false)), (28, 0, Cont.vec 1 28 n ptF)], 2064, 189⟩) (by kernel_rfl) (by kernel_rfl) ?_
  refine sframe_at ?_
  refine sthen_normal ?_
  refine sem_if (q := false) (by kernel_rfl) (fun hc => ?_) (fun hc => ?_)
  · cases hc
  clear hc
  refine Sem.skip ?_
  refine sthen_normal ?_
  refine Sem.seq ?_
  refine Sem.seq ?_
  refine inF hn8 rfl (Sem.of_evC hm T_ok hΓ rfl ?_)
  refine evC_wk (s' := ⟨[(0, 0, Cont.cell (AV.int IntKind.i64 (↑n : Int))), (0, 1, Cont.cell (AV.int IntKind.i64 (↑k : Int))), (0, 2, Cont.cell (AV.int IntKind.i64 (↑R : Int))), (0, 7, Cont.cell (AV.vs 28)), (0, 8, Cont.cell (AV.bool true)), (0, 42, Cont.cell (AV.bool false)), (28, 0, Cont.vec 1 28 n ptF)], 29, 189⟩) _ (wk_go [28] rfl (by decide) rfl rfl ⟨⟨_, rfl, rfl⟩, ⟨_, rfl, rfl⟩, ⟨_, rfl, rfl⟩, ⟨_, rfl, rfl⟩, ⟨_, rfl, rfl⟩, ⟨_, rfl, rfl⟩, ⟨_, rfl, Go.Eng.S25.cw_rowQ (by assumption)⟩, trivial⟩) ?_
  refine evC_goL0 (dec := []) (ks := [(0, 0), (0, 1), (0, 2), (0, 7), (0, 8), (0, 9), (28, 0)]) (s' := ⟨[(0, 0, Cont.cell (AV.int IntKind.i64 (↑n : Int))), (0, 1, Cont.cell (AV.int IntKind.i64 (↑k : Int))), (0, 2, Cont.cell (AV.int IntKind.i64 (↑R : Int))), (0, 7, Cont.cell (AV.vs 28)), (0, 8, Cont.cell (AV.bool true)), (0, 9, Cont.cell (AV.int IntKind.i64 0)), (28, 0, Cont.vec 1 28 n ptF)], 61, 189⟩) (by kernel_rfl) (by kernel_rfl) ?_
  refine sframe_at ?_
  refine sthen_normal ?_
  refine Sem.block ?_
  refine Sem.loop (ι := { x : Nat × (Nat → Peer) // x.1 ≤ R ∧ LInv n k x.1 x.2 }) (fun x => St.app ⟨[(0, 0, .cell (.int .i64 (n : Nat))), (0, 1, .cell (.int .i64 (k : Nat))), (0, 2, .cell (.int .i64 (R : Nat))), (0, 7, .cell (.vs 28)), (0, 8, .cell (.bool true)), (0, 9, .cell (.int .i64 (x.1.1 : Nat))), (28, 0, .vec 1 28 n ptF)], 2000, 189⟩ (famP x.1.2 n)) (fun x => R - x.1.1) ⟨(0, newF n), Nat.zero_le _, linv_new ⟨hn2, hn8⟩⟩ (.up rfl (Nat.le_of_ble_eq_true rfl) rfl) ?_
  rintro ⟨⟨r, Ps⟩, hr, hI⟩
  have hr : r ≤ R := hr
  have hI : LInv n k r Ps := hI
  refine Sem.seq ?_
  refine Sem.seq ?_
  refine inF hn8 rfl (Sem.of_evC hm T_ok hΓ rfl ?_)
  refine evC_goL0 (dec := []) (ks := [(0, 0), (0, 1), (0, 2), (0, 7), (0, 8), (0, 9), (0, 45), (28, 0)]) (s' := ⟨[(0, 0, Cont.cell (AV.int IntKind.i64 (↑n : Int))), (0, 1, Cont.cell (AV.int IntKind.i64 (↑k : Int))), (0, 2, Cont.cell (AV.int IntKind.i64 (↑R : Int))), (0, 7, Cont.cell (AV.vs 28)), (0, 8, Cont.cell (AV.bool true)), (0, 9, Cont.cell (AV.int IntKind.i64 (↑r : Int))), (0, 45, Cont.cell (AV.bool (decide ((↑r : Int) < (↑R : Int))))), (28, 0, Cont.vec 1 28 n ptF)], 2096, 189⟩) (by kernel_rfl) (by kernel_rfl) ?_
  refine sframe_at ?_
  refine sthen_normal ?_
  refine sem_if (q := decide ((↑r : Int) < (↑R : Int))) (by kernel_rfl) (fun hc => ?_) (fun hc => ?_)
  · have hlt : r < R := by have := of_decide_eq_true hc; omega
    clear hc
    obtain ⟨T, I, J, i1, i2, i3, i4, i5, i6, i7, i8, iV⟩ := hI
    refine Sem.skip ?_
    refine sthen_normal ?_
    refine Sem.seq ?_
    refine Sem.block ?_
    refine Sem.seq ?_
    refine inF hn8 rfl (Sem.of_evC hm T_ok hΓ rfl ?_)
    refine evC_goL0 (dec := []) (ks := [(0, 0), (0, 1), (0, 2), (0, 7), (0, 8), (0, 9), (0, 10), (28, 0)]) (s' := ⟨[(0, 0, Cont.cell (AV.int IntKind.i64 (↑n : Int))), (0, 1, Cont.cell (AV.int IntKind.i64 (↑k : Int))), (0, 2, Cont.cell (AV.int IntKind.i64 (↑R : Int))), (0, 7, Cont.cell (AV.vs 28)), (0, 8, Cont.cell (AV.bool true)), (0, 9, Cont.cell (AV.int IntKind.i64 (↑r : Int))), (0, 10, Cont.cell AV.nils), (28, 0, Cont.vec 1 28 n ptF)], 2128, 189⟩) (by kernel_rfl) (by kernel_rfl) ?_
    refine sframe_at ?_
    refine sthen_normal ?_
    refine Sem.seq ?_
    refine Sem.seq ?_
    refine inF hn8 rfl (Sem.of_evC hm T_ok hΓ rfl ?_)
    refine evC_wk (s' := ⟨[(0, 0, Cont.cell (AV.int IntKind.i64 (↑n : Int))), (0, 1, Cont.cell (AV.int IntKind.i64 (↑k : Int))), (0, 2, Cont.cell (AV.int IntKind.i64 (↑R : Int))), (0, 7, Cont.cell (AV.vs 28)), (0, 8, Cont.cell (AV.bool true)), (0, 9, Cont.cell (AV.int IntKind.i64 (↑r : Int))), (0, 10, Cont.cell AV.nils), (28, 0, Cont.vec 1 28 n ptF)], 29, 189⟩) _ (wk_go [28] rfl (by decide) rfl rfl ⟨⟨_, rfl, rfl⟩, ⟨_, rfl, rfl⟩, ⟨_, rfl, rfl⟩, ⟨_, rfl, rfl⟩, ⟨_, rfl, rfl⟩, ⟨_, rfl, rfl⟩, ⟨_, rfl, rfl⟩, ⟨_, rfl, Go.Eng.S25.cw_rowQ (by assumption)⟩, trivial⟩) ?_
    refine evC_wk _ (.nil 0 10 1 30 (fun _ => .nils) (Nat.le_of_ble_eq_true rfl) rfl) ?_
    refine evC_wk (s' := ⟨[(0, 0, Cont.cell (AV.int IntKind.i64 (↑n : Int))), (0, 1, Cont.cell (AV.int IntKind.i64 (↑k : Int))), (0, 2, Cont.cell (AV.int IntKind.i64 (↑R : Int))), (0, 7, Cont.cell (AV.vs 28)), (0, 8, Cont.cell (AV.bool true)), (0, 9, Cont.cell (AV.int IntKind.i64 (↑r : Int))), (0, 10, Cont.cell (AV.vs 29)), (28, 0, Cont.vec 1 28 n ptF), (29, 0, .vec 1 30 (msgs []).length (nB (msgs [])))], 30, 189⟩) _ (wk_go [28, 29] rfl (by decide) rfl rfl ⟨⟨_, rfl, rfl⟩, ⟨_, rfl, rfl⟩, ⟨_, rfl, rfl⟩, ⟨_, rfl, rfl⟩, ⟨_, rfl, rfl⟩, ⟨_, rfl, rfl⟩, ⟨_, rfl, rfl⟩, ⟨_, rfl, Go.Eng.S25.cw_rowQ (by assumption)⟩, ⟨_, rfl, ⟨rfl, rfl, rfl, fun _ hi => absurd hi (Nat.not_lt_zero _)⟩⟩, trivial⟩) ?_
    refine evC_goL0 (dec := []) (ks := [(0, 0), (0, 1), (0, 2), (0, 7), (0, 8), (0, 9), (0, 10), (0, 11), (28, 0), (29, 0)]) (s' := ⟨[(0, 0, Cont.cell (AV.int IntKind.i64 (↑n : Int))), (0, 1, Cont.cell (AV.int IntKind.i64 (↑k : Int))), (0, 2, Cont.cell (AV.int IntKind.i64 (↑R : Int))), (0, 7, Cont.cell (AV.vs 28)), (0, 8, Cont.cell (AV.bool true)), (0, 9, Cont.cell (AV.int IntKind.i64 (↑r : Int))), (0, 10, Cont.cell (AV.vs 29)), (0, 11, Cont.cell (AV.int IntKind.i64 0)), (28, 0, Cont.vec 1 28 n ptF), (29, 0, Cont.vec 1 30 0 (nB (msgs [])))], 62, 189⟩) (by kernel_rfl) (by kernel_rfl) ?_
    refine sframe_at ?_
    refine sthen_normal ?_
    refine Sem.block ?_
    refine Sem.loop (ι := { x : Nat × (Nat → Peer) × List (Nat × Nat × List Int) // x.1 ≤ n ∧ LSent n x.1 x.2.1 x.2.2 T I J }) (fun x => St.app ⟨[(0, 0, .cell (.int .i64 (n : Nat))), (0, 1, .cell (.int .i64 (k : Nat))), (0, 2, .cell (.int .i64 (R : Nat))), (0, 7, .cell (.vs 28)), (0, 8, .cell (.bool true)), (0, 9, .cell (.int .i64 (r : Nat))), (0, 10, .cell (.vs 29)), (0, 11, .cell (.int .i64 (x.1.1 : Nat))), (28, 0, .vec 1 28 n ptF), (29, 0, .vec 1 30 (msgs x.1.2.2).length (nB (msgs x.1.2.2)))], 2000, 189⟩ (famP x.1.2.1 n)) (fun x => n - x.1.1) ⟨(0, Ps, []), Nat.zero_le _, lsent_new iV⟩ (.up rfl (Nat.le_of_ble_eq_true rfl) rfl) ?_
    clear iV
    rintro ⟨⟨i, Ps, X⟩, hi, L⟩
    have hi : i ≤ n := hi
    have L : LSent n i Ps X T I J := L
    refine Sem.seq ?_
    refine Sem.seq ?_
    refine inF hn8 rfl (Sem.of_evC hm T_ok hΓ rfl ?_)
    refine evC_goL0 (dec := []) (ks := [(0, 0), (0, 1), (0, 2), (0, 7), (0, 8), (0, 9), (0, 10), (0, 11), (0, 50), (28, 0), (29, 0)]) (s' := ⟨[(0, 0, Cont.cell (AV.int IntKind.i64 (↑n : Int))), (0, 1, Cont.cell (AV.int IntKind.i64 (↑k : Int))), (0, 2, Cont.cell (AV.int IntKind.i64 (↑R : Int))), (0, 7, Cont.cell (AV.vs 28)), (0, 8, Cont.cell (AV.bool true)), (0, 9, Cont.cell (AV.int IntKind.i64 (↑r : Int))), (0, 10, Cont.cell (AV.vs 29)), (0, 11, Cont.cell (AV.int IntKind.i64 (↑i : Int))), (0, 50, Cont.cell (AV.bool (decide ((↑i : Int) < (↑n : Int))))), (28, 0, Cont.vec 1 28 n ptF), (29, 0, Cont.vec 1 30 (List.length (msgs X)) (nB (msgs X)))], 2096, 189⟩) (by kernel_rfl) (by kernel_rfl) ?_
    refine sframe_at ?_
    refine sthen_normal ?_
    refine sem_if (q := decide ((↑i : Int) < (↑n : Int))) (by kernel_rfl) (fun hc => ?_) (fun hc => ?_)
    · have hin : i < n := by have := of_decide_eq_true hc; omega
      clear hc
      have hl := L.len
      refine Sem.skip (sthen_normal (Sem.seq ?_))
      refine Sem.wk (keepP [(0, 0), (0, 1), (0, 2), (0, 7), (0, 8), (0, 9), (0, 10), (0, 11), (28, 0), (29, 0)] rfl rfl (famP_low hn8 _ (Nat.le_refl _)) (nx' := 4000) (Nat.le_of_ble_eq_true rfl)) ?_
      refine foc (A := [(0, 0, .cell (.int .i64 (n : Nat))), (0, 1, .cell (.int .i64 (k : Nat))), (0, 2, .cell (.int .i64 (R : Nat))), (0, 7, .cell (.vs 28)), (0, 8, .cell (.bool true)), (0, 9, .cell (.int .i64 (r : Nat))), (0, 10, .cell (.vs 29)), (0, 11, .cell (.int .i64 (i : Nat)))]) (C := [(29, 0, .vec 1 30 (msgs X).length (nB (msgs X)))]) hn8 hin (Nat.le_of_ble_eq_true rfl) rfl rfl ⟨⟨rfl, rfl, rfl⟩, ⟨rfl, rfl, rfl⟩, ⟨rfl, rfl, rfl⟩, ⟨rfl, rfl, cw_vsS (by omega) (by decide)⟩, ⟨rfl, rfl, rfl⟩, ⟨rfl, rfl, rfl⟩, ⟨rfl, rfl, cw_vsS (by omega) (by decide)⟩, ⟨rfl, rfl, rfl⟩, trivial⟩ ⟨⟨rfl, rfl, cw_kept⟩, trivial⟩ ?_
      refine live_issue ⟨hn2, hn8⟩ hin (by omega) (by omega) (L.old i hin (Nat.le_refl _)) (by omega) (by rw [msgs_len]; omega) fun P' Y V h1 h2 h3 => ?_
      refine sframe_at (sthen_normal ?_)
      refine Sem.wk (unfoc (A := [(0, 0, .cell (.int .i64 (n : Nat))), (0, 1, .cell (.int .i64 (k : Nat))), (0, 2, .cell (.int .i64 (R : Nat))), (0, 7, .cell (.vs 28)), (0, 8, .cell (.bool true)), (0, 9, .cell (.int .i64 (r : Nat))), (0, 10, .cell (.vs 29)), (0, 11, .cell (.int .i64 (i : Nat))), (0, 13, .cell (.int .i64 (n : Nat))), (0, 77, .cell (.bool (decide ((n : Int) < (n : Nat)))))]) (C := [(29, 0, .vec 1 30 (msgs X ++ Y.map Prod.snd).length (nB (msgs X ++ Y.map Prod.snd)))]) (y := P') (nx' := 126) hn8 hin (Nat.le_of_ble_eq_true rfl) (Nat.le_refl _) rfl rfl ⟨⟨rfl, rfl, rfl⟩, ⟨rfl, rfl, rfl⟩, ⟨rfl, rfl, rfl⟩, ⟨rfl, rfl, cw_vsS (by omega) (by decide)⟩, ⟨rfl, rfl, rfl⟩, ⟨rfl, rfl, rfl⟩, ⟨rfl, rfl, cw_vsS (by omega) (by decide)⟩, ⟨rfl, rfl, rfl⟩, ⟨rfl, rfl, rfl⟩, ⟨rfl, rfl, rfl⟩, trivial⟩ ⟨⟨rfl, rfl, cw_kept⟩, trivial⟩) ?_
      refine inF hn8 rfl (Sem.of_evC hm T_ok hΓ rfl ?_)
      refine evC_goL0 (dec := []) (ks := [(0, 0), (0, 1), (0, 2), (0, 7), (0, 8), (0, 9), (0, 10), (0, 11), (28, 0), (29, 0)]) (s' := ⟨[(0, 0, Cont.cell (AV.int IntKind.i64 (↑n : Int))), (0, 1, Cont.cell (AV.int IntKind.i64 (↑k : Int))), (0, 2, Cont.cell (AV.int IntKind.i64 (↑R : Int))), (0, 7, Cont.cell (AV.vs 28)), (0, 8, Cont.cell (AV.bool true)), (0, 9, Cont.cell (AV.int IntKind.i64 (↑r : Int))), (0, 10, Cont.cell (AV.vs 29)), (0, 11, Cont.cell (AV.int IntKind.i64 (IntKind.i64.wrap ((↑i : Int) + 1)))), (28, 0, Cont.vec 1 28 n ptF), (29, 0, Cont.vec 1 30 (List.length (msgs X ++ List.map Prod.snd Y)) (nB (msgs X ++ List.map Prod.snd Y)))], 222, 189⟩) (by kernel_rfl) (by kernel_rfl) ?_
      refine sframe_at ?_
      rw [← msgs_app X i Y, i64_in ((i : Int) + 1) (by omega)]
      exact sround_normal ⟨(i + 1, updF Ps i P', X ++ Y.map fun z => (i, z.1, z.2)), hin, lsent_next L hn8 hin V h1 h2 h3⟩ (.up rfl (Nat.le_of_ble_eq_true rfl) rfl) (by show n - (i + 1) < n - i; omega)
    · have hin : i = n := by have := of_decide_eq_false hc; omega
      subst hin
      clear hc
      have hl : (msgs X).length ≤ 64 := by have := L.len; rw [msgs_len]; omega
      have hlx : X.length ≤ 64 := by have := L.len; omega
      refine Sem.exit ?_
      refine sthen_exit ?_
      refine sround_exit ?_
      refine block_exit ?_
      refine sthen_normal ?_
      refine Sem.seq ?_
      refine Sem.seq ?_
      refine inF hn8 rfl (Sem.of_evC hm T_ok hΓ rfl ?_)
      refine evC_wk (s' := ⟨[(0, 0, Cont.cell (AV.int IntKind.i64 (↑i : Int))), (0, 1, Cont.cell (AV.int IntKind.i64 (↑k : Int))), (0, 2, Cont.cell (AV.int IntKind.i64 (↑R : Int))), (0, 7, Cont.cell (AV.vs 28)), (0, 8, Cont.cell (AV.bool true)), (0, 9, Cont.cell (AV.int IntKind.i64 (↑r : Int))), (0, 10, Cont.cell (AV.vs 29)), (0, 11, Cont.cell (AV.int IntKind.i64 (↑i : Int))), (0, 50, Cont.cell (AV.bool (decide ((↑i : Int) < (↑i : Int))))), (28, 0, Cont.vec 1 28 i ptF), (29, 0, Cont.vec 1 30 (List.length (msgs X)) (nB (msgs X)))], 30, 189⟩) _ (wk_go [28, 29] rfl (by decide) rfl rfl ⟨⟨_, rfl, rfl⟩, ⟨_, rfl, rfl⟩, ⟨_, rfl, rfl⟩, ⟨_, rfl, rfl⟩, ⟨_, rfl, rfl⟩, ⟨_, rfl, rfl⟩, ⟨_, rfl, rfl⟩, ⟨_, rfl, rfl⟩, ⟨_, rfl, rfl⟩, ⟨_, rfl, Go.Eng.S25.cw_rowQ (by assumption)⟩, ⟨_, rfl, rfl, rfl, rfl, fun _ _ => rfl⟩, trivial⟩) ?_
      refine evC_goL0 (dec := []) (ks := [(0, 0), (0, 1), (0, 2), (0, 7), (0, 8), (0, 9), (0, 10), (0, 16), (28, 0), (29, 0)]) (s' := ⟨[(0, 0, Cont.cell (AV.int IntKind.i64 (↑i : Int))), (0, 1, Cont.cell (AV.int IntKind.i64 (↑k : Int))), (0, 2, Cont.cell (AV.int IntKind.i64 (↑R : Int))), (0, 7, Cont.cell (AV.vs 28)), (0, 8, Cont.cell (AV.bool true)), (0, 9, Cont.cell (AV.int IntKind.i64 (↑r : Int))), (0, 10, Cont.cell (AV.vs 29)), (0, 16, Cont.cell (AV.int IntKind.i64 (IntKind.i64.wrap ((↑(List.length (msgs X)) : Int) - 1)))), (28, 0, Cont.vec 1 28 i ptF), (29, 0, Cont.vec 1 30 (List.length (msgs X)) (nB (msgs X)))], 158, 189⟩) (by kernel_rfl) (by kernel_rfl) ?_
      refine sframe_at ?_
      refine sthen_normal ?_
      refine Sem.block ?_
      rw [i64_in (((msgs X).length : Int) - 1) (by omega)]
      refine Sem.loop (ι := { x : Nat × (Nat → Peer) // x.1 ≤ X.length ∧ ((r % k = k - 1 ∧ LGot i x.1 x.2 X T J) ∨ (r % k ≠ k - 1 ∧ ∀ p, p < i → VL i (x.2 p) p T (T + 8) J)) }) (fun x => St.app ⟨[(0, 0, .cell (.int .i64 (i : Nat))), (0, 1, .cell (.int .i64 (k : Nat))), (0, 2, .cell (.int .i64 (R : Nat))), (0, 7, .cell (.vs 28)), (0, 8, .cell (.bool true)), (0, 9, .cell (.int .i64 (r : Nat))), (0, 10, .cell (.vs 29)), (0, 16, .cell (.int .i64 ((x.1.1 : Int) - 1))), (28, 0, .vec 1 28 i ptF), (29, 0, .vec 1 30 (msgs X).length (nB (msgs X)))], 2000, 189⟩ (famP x.1.2 i)) (fun x => x.1.1) ⟨(X.length, Ps), Nat.le_refl _, ?_⟩ (.up ?_ (Nat.le_of_ble_eq_true rfl) rfl) ?_
      · by_cases h : r % k = k - 1
        · exact .inl ⟨h, lgot_new L⟩
        · exact .inr ⟨h, fun p hp => L.now p hp hp⟩
      · rw [msgs_len]; rfl
      rintro ⟨⟨m, Ps⟩, hmX, G⟩
      have hmX : m ≤ X.length := hmX
      have G : (r % k = k - 1 ∧ LGot i m Ps X T J) ∨ (r % k ≠ k - 1 ∧ ∀ p, p < i → VL i (Ps p) p T (T + 8) J) := G
      refine Sem.seq ?_
      refine Sem.seq ?_
      refine inF hn8 rfl (Sem.of_evC hm T_ok hΓ rfl ?_)
      refine evC_goL (dec := []) (ks := [(0, 0), (0, 1), (0, 2), (0, 7), (0, 8), (0, 9), (0, 10), (0, 16), (0, 113), (28, 0), (29, 0)]) (ps := [List.all [decide ((↑m : Int) - (1 : Int) ≥ (0 : Int))] id = true → (↑k : Int) ≠ (0 : Int)]) (s' := ⟨[(0, 0, Cont.cell (AV.int IntKind.i64 (↑i : Int))), (0, 1, Cont.cell (AV.int IntKind.i64 (↑k : Int))), (0, 2, Cont.cell (AV.int IntKind.i64 (↑R : Int))), (0, 7, Cont.cell (AV.vs 28)), (0, 8, Cont.cell (AV.bool true)), (0, 9, Cont.cell (AV.int IntKind.i64 (↑r : Int))), (0, 10, Cont.cell (AV.vs 29)), (0, 16, Cont.cell (AV.int IntKind.i64 ((↑m : Int) - 1))), (0, 113, Cont.cell (AV.bool (bif decide ((↑m : Int) - 1 ≥ 0) then Int.tmod (↑r : Int) (↑k : Int) == IntKind.i64.wrap ((↑k : Int) - 1) else false))), (28, 0, Cont.vec 1 28 i ptF), (29, 0, Cont.vec 1 30 (List.length (msgs X)) (nB (msgs X)))], 2320, 189⟩) (by kernel_rfl) (by kernel_rfl) ?_ ?_
      · exact fun _ h => by have h : (k : Int) = 0 := h; omega
      rw [show Int.tmod (r : Int) (k : Int) = ((r % k : Nat) : Int) from rfl, i64_in ((k : Int) - 1) (by omega)]
      refine sframe_at ?_
      refine sthen_normal ?_
      refine sem_if (q := bif decide ((↑m : Int) - 1 ≥ 0) then (↑(r % k) : Int) == (↑k : Int) - 1 else false) (by kernel_rfl) (fun hc => ?_) (fun hc => ?_)
      · rw [cond_and, Bool.and_eq_true, decide_eq_true_eq, beq_iff_eq] at hc
        obtain ⟨m, rfl⟩ : ∃ m', m = m' + 1 := ⟨m - 1, by omega⟩
        have hrk : r % k = k - 1 := by omega
        have G : LGot i (m + 1) Ps X T J := (G.resolve_right fun h => h.1 hrk).2
        clear hc
        obtain ⟨⟨p, to, M⟩, hx⟩ : ∃ x, X[m]? = some x := ⟨_, List.getElem?_eq_getElem (by omega)⟩
        obtain ⟨e1, G1⟩ := lgot_next G L.all ⟨i4, by omega⟩ hx
        obtain ⟨-, ht, -, hM⟩ := L.all _ (List.mem_iff_getElem?.2 ⟨m, hx⟩)
        have ht : to < i := ht
        have hM : LM M p to T J := hM
        obtain ⟨M1, M2, M3⟩ := hM.get
        rw [show ((m + 1 : Nat) : Int) - 1 = (m : Nat) by omega]
        refine Sem.skip (sthen_normal (Sem.seq ?_))
        refine Sem.wk (keepP [(0, 0), (0, 1), (0, 2), (0, 7), (0, 8), (0, 9), (0, 10), (0, 16), (28, 0), (29, 0)] rfl rfl (famP_low hn8 _ (Nat.le_refl _)) (nx' := 4000) (Nat.le_of_ble_eq_true rfl)) ?_
        refine foc (A := [(0, 0, .cell (.int .i64 (i : Nat))), (0, 1, .cell (.int .i64 (k : Nat))), (0, 2, .cell (.int .i64 (R : Nat))), (0, 7, .cell (.vs 28)), (0, 8, .cell (.bool true)), (0, 9, .cell (.int .i64 (r : Nat))), (0, 10, .cell (.vs 29)), (0, 16, .cell (.int .i64 (m : Nat)))]) (C := [(29, 0, .vec 1 30 (msgs X).length (nB (msgs X)))]) hn8 ht (Nat.le_of_ble_eq_true rfl) rfl rfl ⟨⟨rfl, rfl, rfl⟩, ⟨rfl, rfl, rfl⟩, ⟨rfl, rfl, rfl⟩, ⟨rfl, rfl, cw_vsS (by omega) (by decide)⟩, ⟨rfl, rfl, rfl⟩, ⟨rfl, rfl, rfl⟩, ⟨rfl, rfl, cw_vsS (by omega) (by decide)⟩, ⟨rfl, rfl, rfl⟩, trivial⟩ ⟨⟨rfl, rfl, cw_kept⟩, trivial⟩ ?_
        refine live_recv ⟨hn2, hn8⟩ ht ((G to ht).okT (by omega) (by omega)) (G to ht).ok M1 M2 M3 e1 (msgs_get hx) (by rw [msgs_len]; omega) (by omega) fun b => ?_
        refine sframe_at (sthen_normal ?_)
        refine Sem.wk (unfoc (A := [(0, 0, .cell (.int .i64 (i : Nat))), (0, 1, .cell (.int .i64 (k : Nat))), (0, 2, .cell (.int .i64 (R : Nat))), (0, 7, .cell (.vs 28)), (0, 8, .cell (.bool true)), (0, 9, .cell (.int .i64 (r : Nat))), (0, 10, .cell (.vs 29)), (0, 16, .cell (.int .i64 (m : Nat))), (0, 150, .cell (.bool b))]) (C := [(29, 0, .vec 1 30 (msgs X).length (nB (msgs X)))]) (y := recP (Ps to) M) (nx' := 5120) hn8 ht (Nat.le_of_ble_eq_true rfl) (Nat.le_refl _) rfl rfl ⟨⟨rfl, rfl, rfl⟩, ⟨rfl, rfl, rfl⟩, ⟨rfl, rfl, rfl⟩, ⟨rfl, rfl, cw_vsS (by omega) (by decide)⟩, ⟨rfl, rfl, rfl⟩, ⟨rfl, rfl, rfl⟩, ⟨rfl, rfl, cw_vsS (by omega) (by decide)⟩, ⟨rfl, rfl, rfl⟩, ⟨rfl, rfl, rfl⟩, trivial⟩ ⟨⟨rfl, rfl, cw_kept⟩, trivial⟩) ?_
        refine inF hn8 rfl (Sem.of_evC hm T_ok hΓ rfl ?_)
        refine evC_wk (s' := ⟨[(0, 0, Cont.cell (AV.int IntKind.i64 (↑i : Int))), (0, 1, Cont.cell (AV.int IntKind.i64 (↑k : Int))), (0, 2, Cont.cell (AV.int IntKind.i64 (↑R : Int))), (0, 7, Cont.cell (AV.vs 28)), (0, 8, Cont.cell (AV.bool true)), (0, 9, Cont.cell (AV.int IntKind.i64 (↑r : Int))), (0, 10, Cont.cell (AV.vs 29)), (0, 16, Cont.cell (AV.int IntKind.i64 (↑m : Int))), (0, 150, Cont.cell (AV.bool b)), (28, 0, Cont.vec 1 28 i ptF), (29, 0, Cont.vec 1 30 (List.length (msgs X)) (nB (msgs X)))], 30, 189⟩) _ (wk_go [28, 29] rfl (by decide) rfl rfl ⟨⟨_, rfl, rfl⟩, ⟨_, rfl, rfl⟩, ⟨_, rfl, rfl⟩, ⟨_, rfl, rfl⟩, ⟨_, rfl, rfl⟩, ⟨_, rfl, rfl⟩, ⟨_, rfl, rfl⟩, ⟨_, rfl, rfl⟩, ⟨_, rfl, rfl⟩, ⟨_, rfl, Go.Eng.S25.cw_rowQ (by assumption)⟩, ⟨_, rfl, rfl, rfl, rfl, fun _ _ => rfl⟩, trivial⟩) ?_
        refine evC_goL0 (dec := []) (ks := [(0, 0), (0, 1), (0, 2), (0, 7), (0, 8), (0, 9), (0, 10), (0, 16), (28, 0), (29, 0)]) (s' := ⟨[(0, 0, Cont.cell (AV.int IntKind.i64 (↑i : Int))), (0, 1, Cont.cell (AV.int IntKind.i64 (↑k : Int))), (0, 2, Cont.cell (AV.int IntKind.i64 (↑R : Int))), (0, 7, Cont.cell (AV.vs 28)), (0, 8, Cont.cell (AV.bool true)), (0, 9, Cont.cell (AV.int IntKind.i64 (↑r : Int))), (0, 10, Cont.cell (AV.vs 29)), (0, 16, Cont.cell (AV.int IntKind.i64 (IntKind.i64.wrap ((↑m : Int) - 1)))), (28, 0, Cont.vec 1 28 i ptF), (29, 0, Cont.vec 1 30 (List.length (msgs X)) (nB (msgs X)))], 126, 189⟩) (by kernel_rfl) (by kernel_rfl) ?_
        refine sframe_at ?_
        rw [i64_in ((m : Int) - 1) (by omega)]
        exact sround_normal ⟨(m, updF Ps to (recP (Ps to) M)), by show m ≤ X.length; omega, .inl ⟨hrk, G1⟩⟩ (.up rfl (Nat.le_of_ble_eq_true rfl) rfl) (Nat.lt_succ_self m)
      · rw [cond_and, Bool.and_eq_false_iff, decide_eq_false_iff_not, beq_eq_false_iff_ne] at hc
        obtain ⟨J', hJ', V⟩ : ∃ J', ((r % k = k - 1 ∧ J' = T + 8) ∨ (r % k ≠ k - 1 ∧ J' = J)) ∧ ∀ p, p < i → VL i (Ps p) p T (T + 8) J' := by
          rcases G with ⟨h, G⟩ | ⟨h, G⟩
          · have hm0 : m = 0 := by omega
            subst hm0
            exact ⟨T + 8, .inl ⟨h, rfl⟩, fun p hp => lgot_done G (by omega) L.has hp⟩
          · exact ⟨J, .inr ⟨h, rfl⟩, G⟩
        clear hc
        refine Sem.exit ?_
        refine sthen_exit ?_
        refine sround_exit ?_
        refine block_exit ?_
        refine sthen_normal ?_
        refine Sem.seq ?_
        refine inF hn8 rfl (Sem.of_evC hm T_ok hΓ rfl ?_)
        refine evC_wk (s' := ⟨[(0, 0, Cont.cell (AV.int IntKind.i64 (↑i : Int))), (0, 1, Cont.cell (AV.int IntKind.i64 (↑k : Int))), (0, 2, Cont.cell (AV.int IntKind.i64 (↑R : Int))), (0, 7, Cont.cell (AV.vs 28)), (0, 8, Cont.cell (AV.bool true)), (0, 9, Cont.cell (AV.int IntKind.i64 (↑r : Int))), (0, 10, Cont.cell (AV.vs 29)), (0, 16, Cont.cell (AV.int IntKind.i64 ((↑m : Int) - 1))), (0, 113, Cont.cell (AV.bool (bif decide ((↑m : Int) - 1 ≥ 0) then (↑(r % k) : Int) == (↑k : Int) - 1 else false))), (28, 0, Cont.vec 1 28 i ptF), (29, 0, Cont.vec 1 30 (List.length (msgs X)) (nB (msgs X)))], 30, 189⟩) _ (wk_go [28, 29] rfl (by decide) rfl rfl ⟨⟨_, rfl, rfl⟩, ⟨_, rfl, rfl⟩, ⟨_, rfl, rfl⟩, ⟨_, rfl, rfl⟩, ⟨_, rfl, rfl⟩, ⟨_, rfl, rfl⟩, ⟨_, rfl, rfl⟩, ⟨_, rfl, rfl⟩, ⟨_, rfl, rfl⟩, ⟨_, rfl, Go.Eng.S25.cw_rowQ (by assumption)⟩, ⟨_, rfl, rfl, rfl, rfl, fun _ _ => rfl⟩, trivial⟩) ?_
        refine evC_goL0 (dec := []) (ks := [(0, 0), (0, 1), (0, 2), (0, 7), (0, 8), (0, 9), (0, 17), (28, 0)]) (s' := ⟨[(0, 0, Cont.cell (AV.int IntKind.i64 (↑i : Int))), (0, 1, Cont.cell (AV.int IntKind.i64 (↑k : Int))), (0, 2, Cont.cell (AV.int IntKind.i64 (↑R : Int))), (0, 7, Cont.cell (AV.vs 28)), (0, 8, Cont.cell (AV.bool true)), (0, 9, Cont.cell (AV.int IntKind.i64 (↑r : Int))), (0, 17, Cont.cell (AV.int IntKind.i64 0)), (28, 0, Cont.vec 1 28 i ptF)], 62, 189⟩) (by kernel_rfl) (by kernel_rfl) ?_
        refine sframe_at ?_
        refine sthen_normal ?_
        refine Sem.block ?_
        have hJb : T ≤ J' ∧ J' ≤ T + 8 ∧ 2 ≤ J' := by omega
        refine Sem.loop (ι := { x : Nat × (Nat → Peer) // x.1 ≤ i ∧ ∀ p, p < i → (p < x.1 → VL i (x.2 p) p J' (T + 8) J') ∧ (x.1 ≤ p → VL i (x.2 p) p T (T + 8) J') }) (fun x => St.app ⟨[(0, 0, .cell (.int .i64 (i : Nat))), (0, 1, .cell (.int .i64 (k : Nat))), (0, 2, .cell (.int .i64 (R : Nat))), (0, 7, .cell (.vs 28)), (0, 8, .cell (.bool true)), (0, 9, .cell (.int .i64 (r : Nat))), (0, 17, .cell (.int .i64 (x.1.1 : Nat))), (28, 0, .vec 1 28 i ptF)], 2000, 189⟩ (famP x.1.2 i)) (fun x => i - x.1.1) ⟨(0, Ps), Nat.zero_le _, fun p hp => ⟨fun h => absurd h (Nat.not_lt_zero _), fun _ => V p hp⟩⟩ (.up rfl (Nat.le_of_ble_eq_true rfl) rfl) ?_
        clear V
        rintro ⟨⟨j, Ps⟩, hj, V⟩
        have hj : j ≤ i := hj
        have V : ∀ p, p < i → (p < j → VL i (Ps p) p J' (T + 8) J') ∧ (j ≤ p → VL i (Ps p) p T (T + 8) J') := V
        refine Sem.seq ?_
        refine Sem.seq ?_
        refine inF hn8 rfl (Sem.of_evC hm T_ok hΓ rfl ?_)
        refine evC_goL0 (dec := []) (ks := [(0, 0), (0, 1), (0, 2), (0, 7), (0, 8), (0, 9), (0, 17), (0, 153), (28, 0)]) (s' := ⟨[(0, 0, Cont.cell (AV.int IntKind.i64 (↑i : Int))), (0, 1, Cont.cell (AV.int IntKind.i64 (↑k : Int))), (0, 2, Cont.cell (AV.int IntKind.i64 (↑R : Int))), (0, 7, Cont.cell (AV.vs 28)), (0, 8, Cont.cell (AV.bool true)), (0, 9, Cont.cell (AV.int IntKind.i64 (↑r : Int))), (0, 17, Cont.cell (AV.int IntKind.i64 (↑j : Int))), (0, 153, Cont.cell (AV.bool (decide ((↑j : Int) < (↑i : Int))))), (28, 0, Cont.vec 1 28 i ptF)], 2096, 189⟩) (by kernel_rfl) (by kernel_rfl) ?_
        refine sframe_at ?_
        refine sthen_normal ?_
        refine sem_if (q := decide ((↑j : Int) < (↑i : Int))) (by kernel_rfl) (fun hc => ?_) (fun hc => ?_)
        · have hji : j < i := by have := of_decide_eq_true hc; omega
          clear hc
          refine Sem.skip (sthen_normal (Sem.seq ?_))
          refine Sem.wk (keepP [(0, 0), (0, 1), (0, 2), (0, 7), (0, 8), (0, 9), (0, 17), (28, 0)] rfl rfl (famP_low hn8 _ (Nat.le_refl _)) (nx' := 4000) (Nat.le_of_ble_eq_true rfl)) ?_
          refine foc (A := [(0, 0, .cell (.int .i64 (i : Nat))), (0, 1, .cell (.int .i64 (k : Nat))), (0, 2, .cell (.int .i64 (R : Nat))), (0, 7, .cell (.vs 28)), (0, 8, .cell (.bool true)), (0, 9, .cell (.int .i64 (r : Nat))), (0, 17, .cell (.int .i64 (j : Nat)))]) (C := []) hn8 hji (Nat.le_of_ble_eq_true rfl) rfl rfl ⟨⟨rfl, rfl, rfl⟩, ⟨rfl, rfl, rfl⟩, ⟨rfl, rfl, rfl⟩, ⟨rfl, rfl, cw_vsS (by omega) (by decide)⟩, ⟨rfl, rfl, rfl⟩, ⟨rfl, rfl, rfl⟩, ⟨rfl, rfl, rfl⟩, trivial⟩ trivial ?_
          refine live_adv ⟨hn2, hn8⟩ hji (by omega) (by omega) ((V j hji).2 (Nat.le_refl _)) fun P' b c V' => ?_
          refine sframe_at (sthen_normal ?_)
          refine Sem.wk (unfoc (A := [(0, 0, .cell (.int .i64 (i : Nat))), (0, 1, .cell (.int .i64 (k : Nat))), (0, 2, .cell (.int .i64 (R : Nat))), (0, 7, .cell (.vs 28)), (0, 8, .cell (.bool true)), (0, 9, .cell (.int .i64 (r : Nat))), (0, 17, .cell (.int .i64 (j : Nat))), (0, 18, .cell (.int .i64 c)), (0, 169, .cell (.bool b))]) (C := []) (y := P') (nx' := 477) hn8 hji (Nat.le_of_ble_eq_true rfl) (Nat.le_refl _) rfl rfl ⟨⟨rfl, rfl, rfl⟩, ⟨rfl, rfl, rfl⟩, ⟨rfl, rfl, rfl⟩, ⟨rfl, rfl, cw_vsS (by omega) (by decide)⟩, ⟨rfl, rfl, rfl⟩, ⟨rfl, rfl, rfl⟩, ⟨rfl, rfl, rfl⟩, ⟨rfl, rfl, rfl⟩, ⟨rfl, rfl, rfl⟩, trivial⟩ trivial) ?_
          refine inF hn8 rfl (Sem.of_evC hm T_ok hΓ rfl ?_)
          refine evC_goL0 (dec := []) (ks := [(0, 0), (0, 1), (0, 2), (0, 7), (0, 8), (0, 9), (0, 17), (28, 0)]) (s' := ⟨[(0, 0, Cont.cell (AV.int IntKind.i64 (↑i : Int))), (0, 1, Cont.cell (AV.int IntKind.i64 (↑k : Int))), (0, 2, Cont.cell (AV.int IntKind.i64 (↑R : Int))), (0, 7, Cont.cell (AV.vs 28)), (0, 8, Cont.cell (AV.bool true)), (0, 9, Cont.cell (AV.int IntKind.i64 (↑r : Int))), (0, 17, Cont.cell (AV.int IntKind.i64 (IntKind.i64.wrap ((↑j : Int) + 1)))), (28, 0, Cont.vec 1 28 i ptF)], 573, 189⟩) (by kernel_rfl) (by kernel_rfl) ?_
          refine sframe_at ?_
          rw [i64_in ((j : Int) + 1) (by omega)]
          refine sround_normal ⟨(j + 1, updF Ps j P'), hji, fun p hp => ⟨fun h => ?_, fun h => ?_⟩⟩ (.up rfl (Nat.le_of_ble_eq_true rfl) rfl) (by show i - (j + 1) < i - j; omega)
          · show VL i (updF Ps j P' p) p J' (T + 8) J'
            by_cases hpj : p = j
            · subst hpj; rw [updF_at]; exact V'
            · rw [updF_ne _ _ hpj]; exact (V p hp).1 (by have h : p < j + 1 := h; omega)
          · show VL i (updF Ps j P' p) p T (T + 8) J'
            have h : j + 1 ≤ p := h
            rw [updF_ne _ _ (by omega)]
            exact (V p hp).2 (by omega)
        · have hji : j = i := by have := of_decide_eq_false hc; omega
          subst hji
          clear hc
          refine Sem.exit ?_
          refine sthen_exit ?_
          refine sround_exit ?_
          refine block_exit ?_
          refine block_normal ?_
          refine sthen_normal ?_
          refine inF hn8 rfl (Sem.of_evC hm T_ok hΓ rfl ?_)
          refine evC_wk (s' := ⟨[(0, 0, Cont.cell (AV.int IntKind.i64 (↑j : Int))), (0, 1, Cont.cell (AV.int IntKind.i64 (↑k : Int))), (0, 2, Cont.cell (AV.int IntKind.i64 (↑R : Int))), (0, 7, Cont.cell (AV.vs 28)), (0, 8, Cont.cell (AV.bool true)), (0, 9, Cont.cell (AV.int IntKind.i64 (↑r : Int))), (0, 17, Cont.cell (AV.int IntKind.i64 (↑j : Int))), (0, 153, Cont.cell (AV.bool (decide ((↑j : Int) < (↑j : Int))))), (28, 0, Cont.vec 1 28 j ptF)], 29, 189⟩) _ (wk_go [28] rfl (by decide) rfl rfl ⟨⟨_, rfl, rfl⟩, ⟨_, rfl, rfl⟩, ⟨_, rfl, rfl⟩, ⟨_, rfl, rfl⟩, ⟨_, rfl, rfl⟩, ⟨_, rfl, rfl⟩, ⟨_, rfl, rfl⟩, ⟨_, rfl, rfl⟩, ⟨_, rfl, Go.Eng.S25.cw_rowQ (by assumption)⟩, trivial⟩) ?_
          refine evC_goL0 (dec := []) (ks := [(0, 0), (0, 1), (0, 2), (0, 7), (0, 8), (0, 9), (28, 0)]) (s' := ⟨[(0, 0, Cont.cell (AV.int IntKind.i64 (↑j : Int))), (0, 1, Cont.cell (AV.int IntKind.i64 (↑k : Int))), (0, 2, Cont.cell (AV.int IntKind.i64 (↑R : Int))), (0, 7, Cont.cell (AV.vs 28)), (0, 8, Cont.cell (AV.bool true)), (0, 9, Cont.cell (AV.int IntKind.i64 (IntKind.i64.wrap ((↑r : Int) + 1)))), (28, 0, Cont.vec 1 28 j ptF)], 125, 189⟩) (by kernel_rfl) (by kernel_rfl) ?_
          refine sframe_at ?_
          rw [i64_in ((r : Int) + 1) (by omega)]
          exact sround_normal ⟨(r + 1, Ps), hlt, linv_next hk i1 i2 i3 ⟨i4, i5, i8⟩ hJ' fun p hp => (V p hp).1 hp⟩ (.up rfl (Nat.le_of_ble_eq_true rfl) rfl) (by show R - (r + 1) < R - r; omega)
  · have hrR : r = R := by have := of_decide_eq_false hc; omega
    subst hrR
    clear hc
    obtain ⟨T, I, J, i1, i2, i3, i4, i5, i6, i7, i8, V⟩ := hI
    refine Sem.exit ?_
    refine sthen_exit ?_
    refine sround_exit ?_
    refine block_exit ?_
    refine sthen_normal ?_
    refine Sem.seq ?_
    refine Sem.seq ?_
    refine inF hn8 rfl (Sem.of_evC hm T_ok hΓ rfl ?_)
    refine evC_wk (s' := ⟨[(0, 0, Cont.cell (AV.int IntKind.i64 (↑n : Int))), (0, 1, Cont.cell (AV.int IntKind.i64 (↑k : Int))), (0, 2, Cont.cell (AV.int IntKind.i64 (↑r : Int))), (0, 7, Cont.cell (AV.vs 28)), (0, 8, Cont.cell (AV.bool true)), (0, 9, Cont.cell (AV.int IntKind.i64 (↑r : Int))), (0, 45, Cont.cell (AV.bool (decide ((↑r : Int) < (↑r : Int))))), (28, 0, Cont.vec 1 28 n ptF)], 29, 189⟩) _ (wk_go [28] rfl (by decide) rfl rfl ⟨⟨_, rfl, rfl⟩, ⟨_, rfl, rfl⟩, ⟨_, rfl, rfl⟩, ⟨_, rfl, rfl⟩, ⟨_, rfl, rfl⟩, ⟨_, rfl, rfl⟩, ⟨_, rfl, rfl⟩, ⟨_, rfl, Go.Eng.S25.cw_rowQ (by assumption)⟩, trivial⟩) ?_
    refine evC_goL0 (dec := []) (ks := [(0, 0), (0, 1), (0, 2), (0, 7), (0, 8), (0, 21), (28, 0)]) (s' := ⟨[(0, 0, Cont.cell (AV.int IntKind.i64 (↑n : Int))), (0, 1, Cont.cell (AV.int IntKind.i64 (↑k : Int))), (0, 2, Cont.cell (AV.int IntKind.i64 (↑r : Int))), (0, 7, Cont.cell (AV.vs 28)), (0, 8, Cont.cell (AV.bool true)), (0, 21, Cont.cell (AV.int IntKind.i64 0)), (28, 0, Cont.vec 1 28 n ptF)], 61, 189⟩) (by kernel_rfl) (by kernel_rfl) ?_
    refine sframe_at ?_
    refine sthen_normal ?_
    refine Sem.block ?_
    refine Sem.loop (ι := { j : Nat // j ≤ n }) (fun x => St.app ⟨[(0, 0, .cell (.int .i64 (n : Nat))), (0, 1, .cell (.int .i64 (k : Nat))), (0, 2, .cell (.int .i64 (r : Nat))), (0, 7, .cell (.vs 28)), (0, 8, .cell (.bool true)), (0, 21, .cell (.int .i64 (x.1 : Nat))), (28, 0, .vec 1 28 n ptF)], 2000, 189⟩ (famP Ps n)) (fun x => n - x.1) ⟨0, Nat.zero_le _⟩ (.up rfl (Nat.le_of_ble_eq_true rfl) rfl) ?_
    rintro ⟨j, hj⟩
    refine Sem.seq ?_
    refine Sem.seq ?_
    refine inF hn8 rfl (Sem.of_evC hm T_ok hΓ rfl ?_)
    refine evC_goL0 (dec := []) (ks := [(0, 0), (0, 1), (0, 2), (0, 7), (0, 8), (0, 21), (0, 172), (28, 0)]) (s' := ⟨[(0, 0, Cont.cell (AV.int IntKind.i64 (↑n : Int))), (0, 1, Cont.cell (AV.int IntKind.i64 (↑k : Int))), (0, 2, Cont.cell (AV.int IntKind.i64 (↑r : Int))), (0, 7, Cont.cell (AV.vs 28)), (0, 8, Cont.cell (AV.bool true)), (0, 21, Cont.cell (AV.int IntKind.i64 (↑j : Int))), (0, 172, Cont.cell (AV.bool (decide ((↑j : Int) < (↑n : Int))))), (28, 0, Cont.vec 1 28 n ptF)], 2096, 189⟩) (by kernel_rfl) (by kernel_rfl) ?_
    refine sframe_at ?_
    refine sthen_normal ?_
    refine sem_if (q := decide ((↑j : Int) < (↑n : Int))) (by kernel_rfl) (fun hc => ?_) (fun hc => ?_)
    · have hji : j < n := by have := of_decide_eq_true hc; omega
      clear hc
      refine Sem.skip (sthen_normal (Sem.seq ?_))
      refine Sem.wk (keepP [(0, 0), (0, 1), (0, 2), (0, 7), (0, 8), (0, 21), (28, 0)] rfl rfl (famP_low hn8 _ (Nat.le_refl _)) (nx' := 4000) (Nat.le_of_ble_eq_true rfl)) ?_
      refine foc (A := [(0, 0, .cell (.int .i64 (n : Nat))), (0, 1, .cell (.int .i64 (k : Nat))), (0, 2, .cell (.int .i64 (r : Nat))), (0, 7, .cell (.vs 28)), (0, 8, .cell (.bool true)), (0, 21, .cell (.int .i64 (j : Nat)))]) (C := []) hn8 hji (Nat.le_of_ble_eq_true rfl) rfl rfl ⟨⟨rfl, rfl, rfl⟩, ⟨rfl, rfl, rfl⟩, ⟨rfl, rfl, rfl⟩, ⟨rfl, rfl, cw_vsS (by omega) (by decide)⟩, ⟨rfl, rfl, rfl⟩, ⟨rfl, rfl, rfl⟩, trivial⟩ trivial ?_
      refine live_turn ⟨hn2, hn8⟩ hji (by omega) (by omega) hk.1 hR i1 (V j hji) fun b => ?_
      refine sframe_at (sthen_normal ?_)
      refine Sem.wk (unfoc (A := [(0, 0, .cell (.int .i64 (n : Nat))), (0, 1, .cell (.int .i64 (k : Nat))), (0, 2, .cell (.int .i64 (r : Nat))), (0, 7, .cell (.vs 28)), (0, 8, .cell (.bool true)), (0, 21, .cell (.int .i64 (j : Nat))), (0, 184, .cell (.bool b))]) (C := []) (y := Ps j) (nx' := 4320) hn8 hji (Nat.le_of_ble_eq_true rfl) (Nat.le_refl _) rfl rfl ⟨⟨rfl, rfl, rfl⟩, ⟨rfl, rfl, rfl⟩, ⟨rfl, rfl, rfl⟩, ⟨rfl, rfl, cw_vsS (by omega) (by decide)⟩, ⟨rfl, rfl, rfl⟩, ⟨rfl, rfl, rfl⟩, ⟨rfl, rfl, rfl⟩, trivial⟩ trivial) ?_
      rw [updF_self]
      refine inF hn8 rfl (Sem.of_evC hm T_ok hΓ rfl ?_)
      refine evC_wk (s' := ⟨[(0, 0, Cont.cell (AV.int IntKind.i64 (↑n : Int))), (0, 1, Cont.cell (AV.int IntKind.i64 (↑k : Int))), (0, 2, Cont.cell (AV.int IntKind.i64 (↑r : Int))), (0, 7, Cont.cell (AV.vs 28)), (0, 8, Cont.cell (AV.bool true)), (0, 21, Cont.cell (AV.int IntKind.i64 (↑j : Int))), (0, 184, Cont.cell (AV.bool b)), (28, 0, Cont.vec 1 28 n ptF)], 29, 189⟩) _ (wk_go [28] rfl (by decide) rfl rfl ⟨⟨_, rfl, rfl⟩, ⟨_, rfl, rfl⟩, ⟨_, rfl, rfl⟩, ⟨_, rfl, rfl⟩, ⟨_, rfl, rfl⟩, ⟨_, rfl, rfl⟩, ⟨_, rfl, rfl⟩, ⟨_, rfl, Go.Eng.S25.cw_rowQ (by assumption)⟩, trivial⟩) ?_
      refine evC_goL0 (dec := []) (ks := [(0, 0), (0, 1), (0, 2), (0, 7), (0, 8), (0, 21), (28, 0)]) (s' := ⟨[(0, 0, Cont.cell (AV.int IntKind.i64 (↑n : Int))), (0, 1, Cont.cell (AV.int IntKind.i64 (↑k : Int))), (0, 2, Cont.cell (AV.int IntKind.i64 (↑r : Int))), (0, 7, Cont.cell (AV.vs 28)), (0, 8, Cont.cell (AV.bool true)), (0, 21, Cont.cell (AV.int IntKind.i64 (IntKind.i64.wrap ((↑j : Int) + 1)))), (28, 0, Cont.vec 1 28 n ptF)], 125, 189⟩) (by kernel_rfl) (by kernel_rfl) ?_
      refine sframe_at ?_
      rw [i64_in ((j : Int) + 1) (by omega)]
      exact sround_normal ⟨j + 1, hji⟩ (.up rfl (Nat.le_of_ble_eq_true rfl) rfl) (by show n - (j + 1) < n - j; omega)
    · clear hc
      refine Sem.exit ?_
      refine sthen_exit ?_
      refine sround_exit ?_
      refine block_exit ?_
      refine sthen_normal ?_
      refine Sem.seq ?_
      refine Sem.wk (Wk.imp' (wk_sub [(0, 8)] rfl rfl rfl)) ?_
      refine Sem.of_evC hm T_ok hΓ rfl ?_
      refine evC_goL0 (dec := []) (ks := [(0, 6)]) (s' := ⟨[(0, 6, Cont.cell (AV.bool true))], 2256, 189⟩) (by kernel_rfl) (by kernel_rfl) ?_
      refine sthen_normal ?_
      refine Sem.ret ?_
      refine post_ret ?_
      refine ends_flat (vs := [AV.bool true]) (Nat.zero_lt_succ _) (by kernel_rfl) (flat_of _ (by kernel_rfl)) rfl ?_
      rfl
def sLive : Spec := fun args _ _ => match args with
  | [.int .i64 n, .int .i64 k, .int .i64 r] => some ⟨[], .bool true, [], []⟩
  | _ => none
theorem live_ok : SpecOK Try.prog 3 sLive := by
  refine spec_ownS (by kernel_rfl) T_ok sget_nil Try.func3 rfl rfl fun args hr nb out e => ?_
  unfold sLive at e
  split at e
  · rename_i n k r
    injection e with e; subst e
    exact ⟨(fun _ h => nomatch h), true, [.int .i64 n, .int .i64 k, .int .i64 r], rfl, fun hs => ⟨.cons _ _ _ _ (.same _ _ (.int _ _)) (.cons _ _ _ _ (.same _ _ (.int _ _)) (.cons _ _ _ _ (.same _ _ (.int _ _)) .nil)), live_walk⟩⟩
  · cases e
end Go.Eng.S25
