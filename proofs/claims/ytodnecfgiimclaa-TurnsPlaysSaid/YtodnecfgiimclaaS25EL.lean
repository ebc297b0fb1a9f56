/- Seat 25: the peers play: the law, walked. -/
import Derived.Test.YtodnecfgiimclaaEngX
import Derived.Test.YtodnecfgiimclaaS25EF
import Derived.Test.YtodnecfgiimclaaS25EG
import Derived.Test.YtodnecfgiimclaaS25EH
import Derived.Test.YtodnecfgiimclaaS25EI
import Derived.Test.YtodnecfgiimclaaS25EK
import Derived.Test.YtodnecfgiimclaaS25CN
set_option linter.unusedSimpArgs false
set_option linter.unusedVariables false
set_option maxHeartbeats 2000000
namespace Go.Eng.S25
open Go.Proofs Go.IntWalk
set_option maxRecDepth 10000
theorem inP {n B : Nat} {xs : Nat → Peer} {c : Code} {Q : Exit → St → Prop} {s : St} (hn : n ≤ 8) (h0 : Nat.ble 1 B = true) (hB : Nat.ble 25 B = true) (hc : coreB 25 s.h = true) (h : Sem Try.prog B c (SFrame (famP xs n) Q) s) : Sem Try.prog 1 c Q (s.app (famP xs n)) :=
 Sem.frameC (B' := B) (m := 25) h0 hB (famP_low hn _ (by decide)) hc (fun x hx => (famP_low hn _ (Nat.le_of_ble_eq_true hB) x hx).2.2) h
theorem jq_vs {m : Nat} (h : 49 ≤ m) : CW jq (.cell (.vs m)) (.cell (.vs m)) := by
 show AV.vs m = AV.vs (jq m)
 rw [jq_hi h]
theorem plays_walk {n0 : Int} {m nb : Nat} {acts : Nat → Act} {sd : List Prop} (hm0 : m ≤ maxLen) (hA : ∀ j, j < m → (IsU (acts j).B ∧ (acts j).B.length ≤ maxLen) ∧ 0 ≤ (acts j).W ∧ (acts j).W ≤ 18446744073709551615) : Sem Try.prog 1 (Try.f7.body.getD .skip) (Post T Try.f7 [] nb ⟨sd, .bool true, [], []⟩ true) ⟨slots0 0 [.int .i64 n0, .rs 6 m false fun j => actV (acts j)], 1, Try.f7.ntmps⟩ := by
 have hm : Try.prog.follows .mixedOrders = true := by kernel_rfl
 have hΓ : SpecsOK Try.prog [(8, sPeers), (15, sAwake), (16, sFew)] := sget_cons peers_ok (sget_cons awake_ok (sget_cons few_ok sget_nil))
 obtain ⟨n, hn0, hn2, hn8⟩ := peersI_ok n0
 refine Sem.seq ?_
 refine Sem.of_evC hm T_ok hΓ rfl ?_
 refine evC_goL0K (s' := ⟨[(0, 0, zI n0), (0, 1, .cell (AV.rs 6 m false fun j => actV (acts j))), (0, 4, zB false)], 33, 270⟩) ?_
 refine sthen_normal ?_
 refine Sem.seq ?_
 refine Sem.of_evC hm T_ok hΓ rfl ?_
 refine evC_goL0K (s' := ⟨[(0, 0, zI (peersI n0)), (0, 1, .cell (AV.rs 6 m false fun j => actV (acts j))), (0, 4, zB false)], 129, 270⟩) ?_
 rw [hn0]
 refine sthen_normal ?_
 refine Sem.seq ?_
 refine sem_cutS (ι := Unit) (fun _ => St.app ⟨[(0, 0, zI (n : Nat)), (0, 1, .cell (.rs 6 m false fun j => actV (acts j))), (0, 5, zV 55), (0, 6, zB true), (55, 0, .vec 1 28 n ptF)], 9000, 270⟩ (famP (newF n) n)) ?_ ?_
 ·rcases (by omega : n = 2 ∨ n = 3 ∨ n = 4 ∨ n = 5 ∨ n = 6 ∨ n = 7 ∨ n = 8) with rfl | rfl | rfl | rfl | rfl | rfl | rfl
  ·refine Sem.of_evC hm T_ok (sget_cons (made_ok 2 (by decide)) sget_nil) rfl ?_
   refine evC_goL (dec := []) (ks := [(0, 0), (0, 1), (0, 5), (0, 6), (161, 0)] ++ (famH peerL 3 162 (newF 2) 2).map fun x => (x.1, x.2.1)) (ps := [(↑(2 : Nat) : Int) = (↑(2 : Nat) : Int)]) (s' := ⟨[(0, 0, zI (2 : Nat)), (0, 1, .cell (.rs 6 m false fun j => actV (acts j))), (0, 5, zV 161), (0, 6, zB true)] ++ ((161, 0, .vec 1 28 2 (ptN 162)) :: famH peerL 3 162 (newF 2) 2), 353, 270⟩) (by kernel_rfl) (by kernel_rfl) rfl ?_
   exact scut_normal () (.trans (after_made55 (A' := [(0, 0, zI (2 : Nat)), (0, 1, .cell (.rs 6 m false fun j => actV (acts j))), (0, 5, zV 55), (0, 6, zB true)]) (by decide) (by decide) rfl rfl ⟨⟨rfl, rfl, rfl⟩, ⟨rfl, rfl, rfl⟩, ⟨rfl, rfl, rfl⟩, ⟨rfl, rfl, rfl⟩, trivial⟩ fun _ _ => rfl) (.up rfl (Nat.le_of_ble_eq_true rfl) rfl))
  ·refine Sem.of_evC hm T_ok (sget_cons (made_ok 3 (by decide)) sget_nil) rfl ?_
   refine evC_goL (dec := []) (ks := [(0, 0), (0, 1), (0, 5), (0, 6), (161, 0)] ++ (famH peerL 3 162 (newF 3) 3).map fun x => (x.1, x.2.1)) (ps := [(↑(3 : Nat) : Int) = (↑(3 : Nat) : Int)]) (s' := ⟨[(0, 0, zI (3 : Nat)), (0, 1, .cell (.rs 6 m false fun j => actV (acts j))), (0, 5, zV 161), (0, 6, zB true)] ++ ((161, 0, .vec 1 28 3 (ptN 162)) :: famH peerL 3 162 (newF 3) 3), 353, 270⟩) (by kernel_rfl) (by kernel_rfl) rfl ?_
   exact scut_normal () (.trans (after_made55 (A' := [(0, 0, zI (3 : Nat)), (0, 1, .cell (.rs 6 m false fun j => actV (acts j))), (0, 5, zV 55), (0, 6, zB true)]) (by decide) (by decide) rfl rfl ⟨⟨rfl, rfl, rfl⟩, ⟨rfl, rfl, rfl⟩, ⟨rfl, rfl, rfl⟩, ⟨rfl, rfl, rfl⟩, trivial⟩ fun _ _ => rfl) (.up rfl (Nat.le_of_ble_eq_true rfl) rfl))
  ·refine Sem.of_evC hm T_ok (sget_cons (made_ok 4 (by decide)) sget_nil) rfl ?_
   refine evC_goL (dec := []) (ks := [(0, 0), (0, 1), (0, 5), (0, 6), (161, 0)] ++ (famH peerL 3 162 (newF 4) 4).map fun x => (x.1, x.2.1)) (ps := [(↑(4 : Nat) : Int) = (↑(4 : Nat) : Int)]) (s' := ⟨[(0, 0, zI (4 : Nat)), (0, 1, .cell (.rs 6 m false fun j => actV (acts j))), (0, 5, zV 161), (0, 6, zB true)] ++ ((161, 0, .vec 1 28 4 (ptN 162)) :: famH peerL 3 162 (newF 4) 4), 353, 270⟩) (by kernel_rfl) (by kernel_rfl) rfl ?_
   exact scut_normal () (.trans (after_made55 (A' := [(0, 0, zI (4 : Nat)), (0, 1, .cell (.rs 6 m false fun j => actV (acts j))), (0, 5, zV 55), (0, 6, zB true)]) (by decide) (by decide) rfl rfl ⟨⟨rfl, rfl, rfl⟩, ⟨rfl, rfl, rfl⟩, ⟨rfl, rfl, rfl⟩, ⟨rfl, rfl, rfl⟩, trivial⟩ fun _ _ => rfl) (.up rfl (Nat.le_of_ble_eq_true rfl) rfl))
  ·refine Sem.of_evC hm T_ok (sget_cons (made_ok 5 (by decide)) sget_nil) rfl ?_
   refine evC_goL (dec := []) (ks := [(0, 0), (0, 1), (0, 5), (0, 6), (161, 0)] ++ (famH peerL 3 162 (newF 5) 5).map fun x => (x.1, x.2.1)) (ps := [(↑(5 : Nat) : Int) = (↑(5 : Nat) : Int)]) (s' := ⟨[(0, 0, zI (5 : Nat)), (0, 1, .cell (.rs 6 m false fun j => actV (acts j))), (0, 5, zV 161), (0, 6, zB true)] ++ ((161, 0, .vec 1 28 5 (ptN 162)) :: famH peerL 3 162 (newF 5) 5), 353, 270⟩) (by kernel_rfl) (by kernel_rfl) rfl ?_
   exact scut_normal () (.trans (after_made55 (A' := [(0, 0, zI (5 : Nat)), (0, 1, .cell (.rs 6 m false fun j => actV (acts j))), (0, 5, zV 55), (0, 6, zB true)]) (by decide) (by decide) rfl rfl ⟨⟨rfl, rfl, rfl⟩, ⟨rfl, rfl, rfl⟩, ⟨rfl, rfl, rfl⟩, ⟨rfl, rfl, rfl⟩, trivial⟩ fun _ _ => rfl) (.up rfl (Nat.le_of_ble_eq_true rfl) rfl))
  ·refine Sem.of_evC hm T_ok (sget_cons (made_ok 6 (by decide)) sget_nil) rfl ?_
   refine evC_goL (dec := []) (ks := [(0, 0), (0, 1), (0, 5), (0, 6), (161, 0)] ++ (famH peerL 3 162 (newF 6) 6).map fun x => (x.1, x.2.1)) (ps := [(↑(6 : Nat) : Int) = (↑(6 : Nat) : Int)]) (s' := ⟨[(0, 0, zI (6 : Nat)), (0, 1, .cell (.rs 6 m false fun j => actV (acts j))), (0, 5, zV 161), (0, 6, zB true)] ++ ((161, 0, .vec 1 28 6 (ptN 162)) :: famH peerL 3 162 (newF 6) 6), 353, 270⟩) (by kernel_rfl) (by kernel_rfl) rfl ?_
   exact scut_normal () (.trans (after_made55 (A' := [(0, 0, zI (6 : Nat)), (0, 1, .cell (.rs 6 m false fun j => actV (acts j))), (0, 5, zV 55), (0, 6, zB true)]) (by decide) (by decide) rfl rfl ⟨⟨rfl, rfl, rfl⟩, ⟨rfl, rfl, rfl⟩, ⟨rfl, rfl, rfl⟩, ⟨rfl, rfl, rfl⟩, trivial⟩ fun _ _ => rfl) (.up rfl (Nat.le_of_ble_eq_true rfl) rfl))
  ·refine Sem.of_evC hm T_ok (sget_cons (made_ok 7 (by decide)) sget_nil) rfl ?_
   refine evC_goL (dec := []) (ks := [(0, 0), (0, 1), (0, 5), (0, 6), (161, 0)] ++ (famH peerL 3 162 (newF 7) 7).map fun x => (x.1, x.2.1)) (ps := [(↑(7 : Nat) : Int) = (↑(7 : Nat) : Int)]) (s' := ⟨[(0, 0, zI (7 : Nat)), (0, 1, .cell (.rs 6 m false fun j => actV (acts j))), (0, 5, zV 161), (0, 6, zB true)] ++ ((161, 0, .vec 1 28 7 (ptN 162)) :: famH peerL 3 162 (newF 7) 7), 353, 270⟩) (by kernel_rfl) (by kernel_rfl) rfl ?_
   exact scut_normal () (.trans (after_made55 (A' := [(0, 0, zI (7 : Nat)), (0, 1, .cell (.rs 6 m false fun j => actV (acts j))), (0, 5, zV 55), (0, 6, zB true)]) (by decide) (by decide) rfl rfl ⟨⟨rfl, rfl, rfl⟩, ⟨rfl, rfl, rfl⟩, ⟨rfl, rfl, rfl⟩, ⟨rfl, rfl, rfl⟩, trivial⟩ fun _ _ => rfl) (.up rfl (Nat.le_of_ble_eq_true rfl) rfl))
  ·refine Sem.of_evC hm T_ok (sget_cons (made_ok 8 (by decide)) sget_nil) rfl ?_
   refine evC_goL (dec := []) (ks := [(0, 0), (0, 1), (0, 5), (0, 6), (161, 0)] ++ (famH peerL 3 162 (newF 8) 8).map fun x => (x.1, x.2.1)) (ps := [(↑(8 : Nat) : Int) = (↑(8 : Nat) : Int)]) (s' := ⟨[(0, 0, zI (8 : Nat)), (0, 1, .cell (.rs 6 m false fun j => actV (acts j))), (0, 5, zV 161), (0, 6, zB true)] ++ ((161, 0, .vec 1 28 8 (ptN 162)) :: famH peerL 3 162 (newF 8) 8), 353, 270⟩) (by kernel_rfl) (by kernel_rfl) rfl ?_
   exact scut_normal () (.trans (after_made55 (A' := [(0, 0, zI (8 : Nat)), (0, 1, .cell (.rs 6 m false fun j => actV (acts j))), (0, 5, zV 55), (0, 6, zB true)]) (by decide) (by decide) rfl rfl ⟨⟨rfl, rfl, rfl⟩, ⟨rfl, rfl, rfl⟩, ⟨rfl, rfl, rfl⟩, ⟨rfl, rfl, rfl⟩, trivial⟩ fun _ _ => rfl) (.up rfl (Nat.le_of_ble_eq_true rfl) rfl))
 rintro ⟨⟩
 refine Sem.seq ?_
 refine Sem.seq ?_
 refine inP (B := 55) hn8 rfl rfl rfl (Sem.of_evC hm T_ok hΓ rfl ?_)
 refine evC_goL0K (s' := ⟨[(0, 0, zI n), (0, 1, .cell (AV.rs 6 m false fun j => actV (acts j))), (0, 5, zV 55), (0, 37, zB false), (55, 0, .vec 1 28 n ptF)], 9064, 270⟩) ?_
 refine sframe_at ?_
 refine sthen_normal ?_
 refine sem_if (q := false) (by kernel_rfl) (fun hc => ?_) (fun hc => ?_)
 ·cases hc
 clear hc
 refine Sem.skip ?_
 refine sthen_normal ?_
 refine Sem.seq ?_
 refine inP (B := 55) hn8 rfl rfl rfl (Sem.of_evC hm T_ok hΓ rfl ?_)
 refine evC_goL0K (s' := ⟨[(0, 0, zI n), (0, 1, .cell (AV.rs 6 m false fun j => actV (acts j))), (0, 5, zV 55), (0, 7, .cell AV.nils), (55, 0, .vec 1 28 n ptF)], 9096, 270⟩) ?_
 refine sframe_at ?_
 refine sthen_normal ?_
 refine Sem.seq ?_
 refine Sem.seq ?_
 refine inP (B := 55) hn8 rfl rfl rfl (Sem.of_evC hm T_ok hΓ rfl ?_)
 refine evC_wk _ (.nil 0 7 1 54 (fun _ => .nils) (Nat.le_of_ble_eq_true rfl) rfl) ?_
 refine evC_wk (s' := ⟨[(0, 0, zI n), (0, 1, Cont.cell (AV.rs 6 m false fun j => actV (acts j))), (0, 5, zV 55), (0, 7, zV 56), (55, 0, .vec 1 28 n ptF), (56, 0, .vec 1 54 0 ptR)], 57, 270⟩) _ (wk_go [55, 9096] rfl (by decide) rfl rfl ⟨⟨_, rfl, rfl⟩, ⟨_, rfl, rfl⟩, ⟨_, rfl, rfl⟩, ⟨_, rfl, rfl⟩, ⟨_, rfl, ?_⟩, ⟨_, rfl, ⟨rfl, rfl, rfl, fun _ hi => absurd hi (Nat.not_lt_zero _)⟩⟩, trivial⟩) ?_
 ·exact cv_pt (f := fun i => 1 + 3 * i) fun j hj => by omega
 refine evC_goL0K (s' := ⟨[(0, 0, zI n), (0, 1, .cell (AV.rs 6 m false fun j => actV (acts j))), (0, 5, zV 55), (0, 7, zV 56), (0, 8, zI 0), (55, 0, .vec 1 28 n ptF), (56, 0, .vec 1 54 0 ptR)], 89, 270⟩) ?_
 refine sframe_at ?_
 refine sthen_normal ?_
 refine Sem.block ?_
 refine inP (B := 25) hn8 rfl rfl rfl ?_
 refine refs_sem ⟨hn2, hn8⟩ ?_
 refine block_exit ?_
 refine sthen_normal ?_
 refine Sem.wk (Imp.trans (join_pairs (A := [(0, 0, zI (n : Nat)), (0, 1, .cell (.rs 6 m false fun j => actV (acts j))), (0, 5, zV 55), (0, 7, zV 56), (0, 8, zI (n : Nat)), (0, 40, zB (decide ((n : Int) < (n : Nat))))]) (nx' := 3000) hn8 (Nat.le_of_ble_eq_true rfl) (Nat.le_of_ble_eq_true rfl) rfl ⟨⟨rfl, rfl, rfl⟩, ⟨rfl, rfl, rfl⟩, ⟨rfl, rfl, jq_vs (by decide)⟩, ⟨rfl, rfl, jq_vs (by decide)⟩, ⟨rfl, rfl, rfl⟩, ⟨rfl, rfl, rfl⟩, trivial⟩) (keepQ (nx' := 3000) [(0, 0), (0, 1), (0, 5), (0, 7), (55, 0), (56, 0)] hn8 rfl rfl (Nat.le_refl _))) ?_
 refine Sem.seq ?_
 refine inQ hn8 rfl (Sem.of_evC hm T_ok hΓ rfl ?_)
 refine evC_goL0K (s' := ⟨[(0, 0, zI n), (0, 1, .cell (AV.rs 6 m false fun j => actV (acts j))), (0, 5, zV 55), (0, 7, zV 56), (0, 9, .cell AV.nils), (55, 0, .vec 1 28 n ptQ), (56, 0, .vec 1 54 n ptD)], 3032, 270⟩) ?_
 refine sframe_at ?_
 refine sthen_normal ?_
 refine Sem.seq ?_
 refine Sem.seq ?_
 refine inQ hn8 rfl (Sem.of_evC hm T_ok hΓ rfl ?_)
 refine evC_wk _ (.nil 0 9 1 9 (fun _ => .nils) (Nat.le_of_ble_eq_true rfl) rfl) ?_
 refine evC_wk (s' := ⟨[(0, 0, zI n), (0, 1, Cont.cell (AV.rs 6 m false fun j => actV (acts j))), (0, 5, zV 55), (0, 7, zV 56), (0, 9, zV 57), (55, 0, .vec 1 28 n ptQ), (56, 0, .vec 1 54 n ptD), (57, 0, .vec 1 9 ([] : List (List Int)).length (nSt []))], 58, 270⟩) _ (wk_go [55, 56, 3032] rfl (by decide) rfl rfl ⟨⟨_, rfl, rfl⟩, ⟨_, rfl, rfl⟩, ⟨_, rfl, rfl⟩, ⟨_, rfl, rfl⟩, ⟨_, rfl, rfl⟩, ⟨_, rfl, ?_⟩, ⟨_, rfl, ?_⟩, ⟨_, rfl, ⟨rfl, rfl, rfl, fun _ hi => absurd hi (Nat.not_lt_zero _)⟩⟩, trivial⟩) ?_
 ·exact cu_Q hn8 (by decide)
 ·exact cu_D hn8 (by decide)
 refine evC_goL0K (s' := ⟨[(0, 0, zI n), (0, 1, .cell (AV.rs 6 m false fun j => actV (acts j))), (0, 5, zV 55), (0, 7, zV 56), (0, 9, zV 57), (0, 10, zI 0), (55, 0, .vec 1 28 n ptQ), (56, 0, .vec 1 54 n ptD), (57, 0, .vec 1 9 0 (nSt []))], 90, 270⟩) ?_
 refine sframe_at ?_
 refine sthen_normal ?_
 refine Sem.block ?_
 refine Sem.loop (ι := { x : Nat × (Nat → Peer) × List (List Int) // x.1 ≤ 80 ∧ PGI n x.1 x.2.1 x.2.2 }) (fun x => St.app ⟨[(0, 0, zI (n : Nat)), (0, 1, .cell (.rs 6 m false fun j => actV (acts j))), (0, 5, zV 55), (0, 7, zV 56), (0, 9, zV 57), (0, 10, zI (x.1.1 : Nat)), (55, 0, .vec 1 28 n ptQ), (56, 0, .vec 1 54 n ptD), (57, 0, .vec 1 9 x.1.2.2.length (nSt x.1.2.2))], 9000, 270⟩ (famQ x.1.2.1 n)) (fun x => 80 - x.1.1) ⟨(0, newF n, []), Nat.zero_le _, PGI.new ⟨hn2, hn8⟩⟩ (.up rfl (Nat.le_of_ble_eq_true rfl) rfl) ?_
 rintro ⟨⟨i, Ps, Ms⟩, hi, A⟩
 have hi : i ≤ 80 := hi
 have A : PGI n i Ps Ms := A
 refine Sem.seq ?_
 refine Sem.seq ?_
 refine inQ hn8 rfl (Sem.of_evC hm T_ok hΓ rfl ?_)
 refine evC_goL0K (s' := ⟨[(0, 0, zI n), (0, 1, .cell (AV.rs 6 m false fun j => actV (acts j))), (0, 5, zV 55), (0, 7, zV 56), (0, 9, zV 57), (0, 10, zI i), (0, 56, zB (bif decide ((↑i : Int) < ↑m) then decide ((↑i : Int) < 80) else false)), (55, 0, .vec 1 28 n ptQ), (56, 0, .vec 1 54 n ptD), (57, 0, .vec 1 9 Ms.length (nSt Ms))], 9256, 270⟩) ?_
 refine sframe_at ?_
 refine sthen_normal ?_
 refine sem_if (q := bif decide ((↑i : Int) < (↑m : Int)) then decide ((↑i : Int) < 80) else false) (by kernel_rfl) (fun hc => ?_) (fun hc => ?_)
 ·have hlt : i < m ∧ i < 80 := by
   rw [cond_and, Bool.and_eq_true, decide_eq_true_eq, decide_eq_true_eq] at hc
   omega
  clear hc
  refine Sem.skip (sthen_normal (Sem.seq ?_))
  refine sem_cutS (ι := { x : (Nat → Peer) × List (List Int) // PGI n (i + 1) x.1 x.2 }) (fun x => St.app ⟨[(0, 0, zI (n : Nat)), (0, 1, .cell (.rs 6 m false fun j => actV (acts j))), (0, 5, zV 55), (0, 7, zV 56), (0, 9, zV 57), (0, 10, zI (i : Nat)), (55, 0, .vec 1 28 n ptQ), (56, 0, .vec 1 54 n ptD), (57, 0, .vec 1 9 x.1.2.length (nSt x.1.2))], 9000, 270⟩ (famQ x.1.1 n)) ?_ ?_
  ·obtain ⟨a, ha⟩ : ∃ a, a = acts i := ⟨_, rfl⟩
   obtain ⟨⟨hB, hBl⟩, hW⟩ := hA i hlt.1
   rw [← ha] at hB hBl hW
   refine Sem.block ?_
   refine Sem.seq ?_
   refine inQ hn8 rfl (Sem.of_evC hm T_ok hΓ rfl ?_)
   refine evC_goLK (ps := [(0 : Int) ≤ ↑i, (↑i : Int) < ↑m, 6 = 6]) (s' := ⟨[(0, 0, zI n), (0, 1, .cell (AV.rs 6 m false fun j => actV (acts j))), (0, 5, zV 55), (0, 7, zV 56), (0, 9, zV 57), (0, 10, zI i), (0, 11, zP 9384), (55, 0, .vec 1 28 n ptQ), (56, 0, .vec 1 54 n ptD), (57, 0, .vec 1 9 Ms.length (nSt Ms)), (9384, 0, zI (Act.Do (acts i))), (9384, 1, zI (Act.P (acts i))), (9384, 2, zI (Act.Q (acts i))), (9384, 3, zI (Act.K (acts i))), (9384, 4, zU (Act.W (acts i))), (9384, 5, .cell (AV.rs 1 (List.length (Act.B (acts i))) false (nU (Act.B (acts i))))), (9384, 6, .top)], 9448, 270⟩) ?_ ?_
   ·exact ⟨by omega, by omega, rfl⟩
   rw [← ha]
   refine sframe_at ?_
   refine sthen_normal ?_
   refine Sem.seq ?_
   refine inQ hn8 rfl (Sem.of_evC hm T_ok hΓ rfl ?_)
   refine evC_goLK (ps := [IsB (List.length (Act.B a)) (nU (Act.B a)), List.length (Act.B a) ≤ maxLen, ((0 : Nat) + fewN (List.length (Act.B a))) * 1 ≤ 140737488355328, (0 : Nat) + fewN (List.length (Act.B a)) ≤ maxLen, fewN (List.length (Act.B a)) = (0 : Nat) ∨ 1 = 1, 1 = 1, 5 = 5]) (s' := ⟨[(0, 0, zI n), (0, 1, .cell (AV.rs 6 m false fun j => actV (acts j))), (0, 5, zV 55), (0, 7, zV 56), (0, 9, zV 57), (0, 10, zI i), (0, 11, zP 9384), (0, 12, zV 9576), (55, 0, .vec 1 28 n ptQ), (56, 0, .vec 1 54 n ptD), (57, 0, .vec 1 9 Ms.length (nSt Ms)), (9384, 0, zI (Act.Do a)), (9384, 1, zI (Act.P a)), (9384, 2, zI (Act.Q a)), (9384, 3, zI (Act.K a)), (9384, 4, zU (Act.W a)), (9384, 5, .cell (AV.rs 1 (List.length (Act.B a)) false (nU (Act.B a)))), (9384, 6, .top), (9576, 0, .vec 1 5 (0 + fewN (List.length (Act.B a))) (catF 0 (pget []) (nU (bytesL (List.length (Act.B a)) (nU (Act.B a))))))], 9640, 270⟩) ?_ ?_
   ·have := fewN_le a.B.length
    exact ⟨isB hB, hBl, by omega, by omega, .inr rfl, rfl, rfl⟩
   obtain ⟨B, hB1, hB2, hB3, hB4⟩ := (few_isU hB).list
   have hB8 : B.length ≤ 800 := by have := fewN_le a.B.length; omega
   rw [bytesL_nU]
   refine sframe_at (sthen_normal ?_)
   refine Sem.wk (renQ (h' := [(0, 0, zI (n : Nat)), (0, 1, .cell (.rs 6 m false fun j => actV (acts j))), (0, 5, zV 55), (0, 7, zV 56), (0, 9, zV 57), (0, 10, zI (i : Nat)), (0, 11, zP 58), (0, 12, zV 59), (55, 0, .vec 1 28 n ptQ), (56, 0, .vec 1 54 n ptD), (57, 0, .vec 1 9 Ms.length (nSt Ms)), (58, 0, zI a.Do), (58, 1, zI a.P), (58, 2, zI a.Q), (58, 3, zI a.K), (58, 4, zU a.W), (58, 5, .cell (.rs 1 a.B.length false (nU a.B))), (59, 0, .vec 1 5 B.length (nU B))]) (nx' := 1000) [49, 50, 51, 52, 53, 54, 55, 56, 57, 9384, 9576] hn8 rfl (by decide) (Nat.le_of_ble_eq_true rfl) ⟨⟨_, rfl, rfl⟩, ⟨_, rfl, rfl⟩, ⟨_, rfl, rfl⟩, ⟨_, rfl, rfl⟩, ⟨_, rfl, rfl⟩, ⟨_, rfl, rfl⟩, ⟨_, rfl, rfl⟩, ⟨_, rfl, rfl⟩, ⟨_, rfl, cv_Q hn8⟩, ⟨_, rfl, cv_D hn8⟩, ⟨_, rfl, cw_st⟩, ⟨_, rfl, rfl⟩, ⟨_, rfl, rfl⟩, ⟨_, rfl, rfl⟩, ⟨_, rfl, rfl⟩, ⟨_, rfl, rfl⟩, ⟨_, rfl, rfl⟩, ⟨_, rfl, ⟨rfl, rfl, ?_, fun j hj => ?_⟩⟩, trivial⟩ rfl) ?_
   ·rw [Nat.zero_add]; exact hB1
   ·exact hB4 j (by rw [hB1]; exact hj)
   refine Sem.seq ?_
   refine sem_cutS (ι := { p : Nat // p < n }) (fun x => St.app ⟨[(0, 0, zI (n : Nat)), (0, 1, .cell (.rs 6 m false fun j => actV (acts j))), (0, 5, zV 55), (0, 7, zV 56), (0, 9, zV 57), (0, 10, zI (i : Nat)), (0, 11, zP 58), (0, 12, zV 59), (55, 0, .vec 1 28 n ptQ), (56, 0, .vec 1 54 n ptD), (57, 0, .vec 1 9 Ms.length (nSt Ms)), (58, 0, zI a.Do), (58, 1, zI (x.1 : Nat)), (58, 2, zI a.Q), (58, 3, zI a.K), (58, 4, zU a.W), (58, 5, .cell (.rs 1 a.B.length false (nU a.B))), (59, 0, .vec 1 5 B.length (nU B))], 1500, 270⟩ (famQ Ps n)) ?_ ?_
   ·refine Sem.seq ?_
    refine inQ hn8 rfl (Sem.of_evC hm T_ok hΓ rfl ?_)
    refine evC_goL0K (s' := ⟨[(0, 0, zI n), (0, 1, .cell (AV.rs 6 m false fun j => actV (acts j))), (0, 5, zV 55), (0, 7, zV 56), (0, 9, zV 57), (0, 10, zI i), (0, 11, zP 58), (0, 12, zV 59), (0, 76, zB (bif decide (Act.P a < 0) then true else decide (Act.P a ≥ (↑n : Int)))), (55, 0, .vec 1 28 n ptQ), (56, 0, .vec 1 54 n ptD), (57, 0, .vec 1 9 Ms.length (nSt Ms)), (58, 0, zI (Act.Do a)), (58, 1, zI (Act.P a)), (58, 2, zI (Act.Q a)), (58, 3, zI (Act.K a)), (58, 4, zU (Act.W a)), (58, 5, .cell (AV.rs 1 (List.length (Act.B a)) false (nU (Act.B a)))), (59, 0, .vec 1 5 B.length (nU B))], 1288, 270⟩) ?_
    refine sframe_at ?_
    refine sthen_normal ?_
    refine sem_if (q := bif decide (Act.P a < 0) then true else decide (Act.P a ≥ (↑n : Int))) (by kernel_rfl) (fun hc => ?_) (fun hc => ?_)
    ·refine inQ hn8 rfl (Sem.of_evC hm T_ok hΓ rfl ?_)
     refine evC_goL0K (s' := ⟨[(0, 0, zI n), (0, 1, .cell (AV.rs 6 m false fun j => actV (acts j))), (0, 5, zV 55), (0, 7, zV 56), (0, 9, zV 57), (0, 10, zI i), (0, 11, zP 58), (0, 12, zV 59), (55, 0, .vec 1 28 n ptQ), (56, 0, .vec 1 54 n ptD), (57, 0, .vec 1 9 Ms.length (nSt Ms)), (58, 0, zI (Act.Do a)), (58, 1, zI 0), (58, 2, zI (Act.Q a)), (58, 3, zI (Act.K a)), (58, 4, zU (Act.W a)), (58, 5, .cell (AV.rs 1 (List.length (Act.B a)) false (nU (Act.B a)))), (59, 0, .vec 1 5 B.length (nU B))], 1352, 270⟩) ?_
     refine sframe_at ?_
     exact scut_normal ⟨0, by omega⟩ (keepQ [(0, 0), (0, 1), (0, 5), (0, 7), (0, 9), (0, 10), (0, 11), (0, 12), (55, 0), (56, 0), (57, 0), (58, 0), (58, 1), (58, 2), (58, 3), (58, 4), (58, 5), (59, 0)] hn8 rfl rfl (Nat.le_of_ble_eq_true rfl))
    ·rw [cond_or, Bool.or_eq_false_iff, decide_eq_false_iff_not, decide_eq_false_iff_not] at hc
     obtain ⟨p, hp⟩ : ∃ p : Nat, a.P = (p : Nat) := ⟨a.P.toNat, by omega⟩
     rw [hp]
     refine Sem.skip ?_
     exact scut_normal ⟨p, by omega⟩ (keepQ [(0, 0), (0, 1), (0, 5), (0, 7), (0, 9), (0, 10), (0, 11), (0, 12), (55, 0), (56, 0), (57, 0), (58, 0), (58, 1), (58, 2), (58, 3), (58, 4), (58, 5), (59, 0)] hn8 rfl rfl (Nat.le_of_ble_eq_true rfl))
   rintro ⟨p, hp⟩
   refine Sem.seq ?_
   refine inQ hn8 rfl (Sem.of_evC hm T_ok hΓ rfl ?_)
   refine evC_goLK (ps := [(0 : Int) ≤ ↑p, (↑p : Int) < ↑n, 1 = 1, (0 : Int) ≤ ↑p, (↑p : Int) < ↑n, 1 = 1, (0 : Int) ≤ ↑p, (↑p : Int) < ↑n, 1 = 1, (0 : Int) ≤ ↑p, (↑p : Int) < ↑n, 1 = 1]) (s' := ⟨[(0, 0, zI n), (0, 1, .cell (AV.rs 6 m false fun j => actV (acts j))), (0, 5, zV 55), (0, 7, zV 56), (0, 9, zV 57), (0, 10, zI i), (0, 11, zP 58), (0, 12, zV 59), (0, 13, .cell (AV.ptr (1 + 6 * p) 0)), (0, 14, .cell (AV.ptr (4 + 6 * p) 0)), (55, 0, .vec 1 28 n ptQ), (56, 0, .vec 1 54 n ptD), (57, 0, .vec 1 9 Ms.length (nSt Ms)), (58, 0, zI (Act.Do a)), (58, 1, zI p), (58, 2, zI (Act.Q a)), (58, 3, zI (Act.K a)), (58, 4, zU (Act.W a)), (58, 5, .cell (AV.rs 1 (List.length (Act.B a)) false (nU (Act.B a)))), (59, 0, .vec 1 5 B.length (nU B))], 1884, 270⟩) ?_ ?_
   ·exact ⟨by omega, by omega, rfl, by omega, by omega, rfl, by omega, by omega, rfl, by omega, by omega, rfl⟩
   refine sframe_at (sthen_normal (Sem.seq ?_))
   refine sem_cutS (ι := { x : (Nat → Peer) × List (List Int) × Nat // x.2.2 < n ∧ PGI n (i + 1) x.1 x.2.1 }) (fun x => St.app ⟨[(0, 0, zI (n : Nat)), (0, 1, .cell (.rs 6 m false fun j => actV (acts j))), (0, 5, zV 55), (0, 7, zV 56), (0, 9, zV 57), (0, 10, zI (i : Nat)), (0, 11, zP 58), (0, 12, zV 59), (0, 13, .cell (ptQ x.1.2.2)), (0, 14, .cell (ptD x.1.2.2)), (55, 0, .vec 1 28 n ptQ), (56, 0, .vec 1 54 n ptD), (57, 0, .vec 1 9 x.1.2.1.length (nSt x.1.2.1)), (58, 2, zI a.Q), (59, 0, .vec 1 5 B.length (nU B))], 9000, 270⟩ (famQ x.1.1 n)) ?_ ?_
   ·refine Sem.seq ?_
    refine inQ hn8 rfl (Sem.of_evC hm T_ok hΓ rfl ?_)
    refine evC_goL0K (s' := ⟨[(0, 0, zI n), (0, 1, .cell (AV.rs 6 m false fun j => actV (acts j))), (0, 5, zV 55), (0, 7, zV 56), (0, 9, zV 57), (0, 10, zI i), (0, 11, zP 58), (0, 12, zV 59), (0, 13, .cell (AV.ptr (1 + 6 * p) 0)), (0, 14, .cell (AV.ptr (4 + 6 * p) 0)), (0, 89, zI (Act.Do a)), (55, 0, .vec 1 28 n ptQ), (56, 0, .vec 1 54 n ptD), (57, 0, .vec 1 9 Ms.length (nSt Ms)), (58, 0, zI (Act.Do a)), (58, 1, zI p), (58, 2, zI (Act.Q a)), (58, 3, zI (Act.K a)), (58, 4, zU (Act.W a)), (58, 5, .cell (AV.rs 1 (List.length (Act.B a)) false (nU (Act.B a)))), (59, 0, .vec 1 5 B.length (nU B))], 1948, 270⟩) ?_
    refine sframe_at ?_
    refine sthen_normal ?_
    refine Sem.block ?_
    refine Sem.seq ?_
    refine inQ hn8 rfl (Sem.of_evC hm T_ok hΓ rfl ?_)
    refine evC_goL0K (s' := ⟨[(0, 0, zI n), (0, 1, .cell (AV.rs 6 m false fun j => actV (acts j))), (0, 5, zV 55), (0, 7, zV 56), (0, 9, zV 57), (0, 10, zI i), (0, 11, zP 58), (0, 12, zV 59), (0, 13, .cell (AV.ptr (1 + 6 * p) 0)), (0, 14, .cell (AV.ptr (4 + 6 * p) 0)), (0, 89, zI (Act.Do a)), (0, 98, zB (Act.Do a == 0)), (55, 0, .vec 1 28 n ptQ), (56, 0, .vec 1 54 n ptD), (57, 0, .vec 1 9 Ms.length (nSt Ms)), (58, 0, zI (Act.Do a)), (58, 1, zI p), (58, 2, zI (Act.Q a)), (58, 3, zI (Act.K a)), (58, 4, zU (Act.W a)), (58, 5, .cell (AV.rs 1 (List.length (Act.B a)) false (nU (Act.B a)))), (59, 0, .vec 1 5 B.length (nU B))], 2012, 270⟩) ?_
    refine sframe_at ?_
    refine sthen_normal ?_
    refine sem_if (q := Act.Do a == 0) (by kernel_rfl) (fun hc => ?_) (fun hc => ?_)
    ·clear hc
     refine Sem.wk (keepQ [(0, 0), (0, 1), (0, 5), (0, 7), (0, 9), (0, 10), (0, 11), (0, 12), (0, 13), (0, 14), (55, 0), (56, 0), (57, 0), (58, 0), (58, 1), (58, 2), (58, 3), (58, 4), (58, 5), (59, 0)] hn8 rfl rfl (nx' := 4000) (Nat.le_of_ble_eq_true rfl)) ?_
     refine pl_b0 (a := a) (B := B) ⟨hn2, hn8⟩ hp hi hB2 hB8 A fun s' Ps' A' h => ?_
     exact scut_normal (Q := fun _ _ => True) ⟨(Ps', Ms, p), hp, A'⟩ h
    clear hc
    refine Sem.seq ?_
    refine inQ hn8 rfl (Sem.of_evC hm T_ok hΓ rfl ?_)
    refine evC_goL0K (s' := ⟨[(0, 0, zI n), (0, 1, .cell (AV.rs 6 m false fun j => actV (acts j))), (0, 5, zV 55), (0, 7, zV 56), (0, 9, zV 57), (0, 10, zI i), (0, 11, zP 58), (0, 12, zV 59), (0, 13, .cell (AV.ptr (1 + 6 * p) 0)), (0, 14, .cell (AV.ptr (4 + 6 * p) 0)), (0, 89, zI (Act.Do a)), (0, 109, zB (Act.Do a == 1)), (55, 0, .vec 1 28 n ptQ), (56, 0, .vec 1 54 n ptD), (57, 0, .vec 1 9 Ms.length (nSt Ms)), (58, 0, zI (Act.Do a)), (58, 1, zI p), (58, 2, zI (Act.Q a)), (58, 3, zI (Act.K a)), (58, 4, zU (Act.W a)), (58, 5, .cell (AV.rs 1 (List.length (Act.B a)) false (nU (Act.B a)))), (59, 0, .vec 1 5 B.length (nU B))], 2076, 270⟩) ?_
    refine sframe_at ?_
    refine sthen_normal ?_
    refine sem_if (q := Act.Do a == 1) (by kernel_rfl) (fun hc => ?_) (fun hc => ?_)
    ·clear hc
     refine Sem.wk (keepQ [(0, 0), (0, 1), (0, 5), (0, 7), (0, 9), (0, 10), (0, 11), (0, 12), (0, 13), (0, 14), (55, 0), (56, 0), (57, 0), (58, 0), (58, 1), (58, 2), (58, 3), (58, 4), (58, 5), (59, 0)] hn8 rfl rfl (nx' := 4000) (Nat.le_of_ble_eq_true rfl)) ?_
     refine pl_b1 (a := a) (B := B) ⟨hn2, hn8⟩ hp hi hB2 hB8 A fun s' Ms' A' h => ?_
     exact scut_normal (Q := fun _ _ => True) ⟨(Ps, Ms', p), hp, A'⟩ h
    clear hc
    refine Sem.seq ?_
    refine inQ hn8 rfl (Sem.of_evC hm T_ok hΓ rfl ?_)
    refine evC_goL0K (s' := ⟨[(0, 0, zI n), (0, 1, .cell (AV.rs 6 m false fun j => actV (acts j))), (0, 5, zV 55), (0, 7, zV 56), (0, 9, zV 57), (0, 10, zI i), (0, 11, zP 58), (0, 12, zV 59), (0, 13, .cell (AV.ptr (1 + 6 * p) 0)), (0, 14, .cell (AV.ptr (4 + 6 * p) 0)), (0, 89, zI (Act.Do a)), (0, 140, zB (Act.Do a == 2)), (55, 0, .vec 1 28 n ptQ), (56, 0, .vec 1 54 n ptD), (57, 0, .vec 1 9 Ms.length (nSt Ms)), (58, 0, zI (Act.Do a)), (58, 1, zI p), (58, 2, zI (Act.Q a)), (58, 3, zI (Act.K a)), (58, 4, zU (Act.W a)), (58, 5, .cell (AV.rs 1 (List.length (Act.B a)) false (nU (Act.B a)))), (59, 0, .vec 1 5 B.length (nU B))], 2140, 270⟩) ?_
    refine sframe_at ?_
    refine sthen_normal ?_
    refine sem_if (q := Act.Do a == 2) (by kernel_rfl) (fun hc => ?_) (fun hc => ?_)
    ·clear hc
     refine Sem.wk (keepQ [(0, 0), (0, 1), (0, 5), (0, 7), (0, 9), (0, 10), (0, 11), (0, 12), (0, 13), (0, 14), (55, 0), (56, 0), (57, 0), (58, 0), (58, 1), (58, 2), (58, 3), (58, 4), (58, 5), (59, 0)] hn8 rfl rfl (nx' := 4000) (Nat.le_of_ble_eq_true rfl)) ?_
     refine pl_b2 (a := a) (B := B) ⟨hn2, hn8⟩ hp hi hB2 hB8 A (fun s' Ps' p hp A' h => ?_) fun s' h => ?_
     ·exact scut_normal (Q := fun _ _ => True) ⟨(Ps', Ms, p), hp, A'⟩ h
     ·exact scut_normal (Q := fun _ _ => True) ⟨(Ps, Ms), A.up⟩ h
    clear hc
    refine Sem.seq ?_
    refine inQ hn8 rfl (Sem.of_evC hm T_ok hΓ rfl ?_)
    refine evC_goL0K (s' := ⟨[(0, 0, zI n), (0, 1, .cell (AV.rs 6 m false fun j => actV (acts j))), (0, 5, zV 55), (0, 7, zV 56), (0, 9, zV 57), (0, 10, zI i), (0, 11, zP 58), (0, 12, zV 59), (0, 13, .cell (AV.ptr (1 + 6 * p) 0)), (0, 14, .cell (AV.ptr (4 + 6 * p) 0)), (0, 89, zI (Act.Do a)), (0, 194, zB (Act.Do a == 3)), (55, 0, .vec 1 28 n ptQ), (56, 0, .vec 1 54 n ptD), (57, 0, .vec 1 9 Ms.length (nSt Ms)), (58, 0, zI (Act.Do a)), (58, 1, zI p), (58, 2, zI (Act.Q a)), (58, 3, zI (Act.K a)), (58, 4, zU (Act.W a)), (58, 5, .cell (AV.rs 1 (List.length (Act.B a)) false (nU (Act.B a)))), (59, 0, .vec 1 5 B.length (nU B))], 2204, 270⟩) ?_
    refine sframe_at ?_
    refine sthen_normal ?_
    refine sem_if (q := Act.Do a == 3) (by kernel_rfl) (fun hc => ?_) (fun hc => ?_)
    ·clear hc
     refine Sem.wk (keepQ [(0, 0), (0, 1), (0, 5), (0, 7), (0, 9), (0, 10), (0, 11), (0, 12), (0, 13), (0, 14), (55, 0), (56, 0), (57, 0), (58, 0), (58, 1), (58, 2), (58, 3), (58, 4), (58, 5), (59, 0)] hn8 rfl rfl (nx' := 4000) (Nat.le_of_ble_eq_true rfl)) ?_
     refine pl_b3 (a := a) (B := B) ⟨hn2, hn8⟩ hp hi hB2 hB8 A fun s' Ps' A' h => ?_
     exact scut_normal (Q := fun _ _ => True) ⟨(Ps', Ms, p), hp, A'⟩ h
    clear hc
    refine Sem.seq ?_
    refine inQ hn8 rfl (Sem.of_evC hm T_ok hΓ rfl ?_)
    refine evC_goL0K (s' := ⟨[(0, 0, zI n), (0, 1, .cell (AV.rs 6 m false fun j => actV (acts j))), (0, 5, zV 55), (0, 7, zV 56), (0, 9, zV 57), (0, 10, zI i), (0, 11, zP 58), (0, 12, zV 59), (0, 13, .cell (AV.ptr (1 + 6 * p) 0)), (0, 14, .cell (AV.ptr (4 + 6 * p) 0)), (0, 215, zB (Act.Do a == 4)), (55, 0, .vec 1 28 n ptQ), (56, 0, .vec 1 54 n ptD), (57, 0, .vec 1 9 Ms.length (nSt Ms)), (58, 0, zI (Act.Do a)), (58, 1, zI p), (58, 2, zI (Act.Q a)), (58, 3, zI (Act.K a)), (58, 4, zU (Act.W a)), (58, 5, .cell (AV.rs 1 (List.length (Act.B a)) false (nU (Act.B a)))), (59, 0, .vec 1 5 B.length (nU B))], 2268, 270⟩) ?_
    refine sframe_at ?_
    refine sthen_normal ?_
    refine sem_if (q := Act.Do a == 4) (by kernel_rfl) (fun hc => ?_) (fun hc => ?_)
    ·clear hc
     refine Sem.wk (keepQ [(0, 0), (0, 1), (0, 5), (0, 7), (0, 9), (0, 10), (0, 11), (0, 12), (0, 13), (0, 14), (55, 0), (56, 0), (57, 0), (58, 0), (58, 1), (58, 2), (58, 3), (58, 4), (58, 5), (59, 0)] hn8 rfl rfl (nx' := 4000) (Nat.le_of_ble_eq_true rfl)) ?_
     refine pl_b4 (a := a) (B := B) ⟨hn2, hn8⟩ hp hi hB2 hB8 hW A fun s' Ps' A' h => ?_
     exact scut_normal (Q := fun _ _ => True) ⟨(Ps', Ms, p), hp, A'⟩ h
    clear hc
    refine Sem.wk (keepQ [(0, 0), (0, 1), (0, 5), (0, 7), (0, 9), (0, 10), (0, 11), (0, 12), (0, 13), (0, 14), (55, 0), (56, 0), (57, 0), (58, 0), (58, 1), (58, 2), (58, 3), (58, 4), (58, 5), (59, 0)] hn8 rfl rfl (nx' := 4000) (Nat.le_of_ble_eq_true rfl)) ?_
    refine pl_b5 (a := a) (B := B) ⟨hn2, hn8⟩ hp hi hB2 hB8 A fun s' Ps' A' h => ?_
    exact scut_normal (Q := fun _ _ => True) ⟨(Ps', Ms, p), hp, A'⟩ h
   ·rintro ⟨⟨Ps, Ms, p⟩, hp, A⟩
    have hp : p < n := hp
    have A : PGI n (i + 1) Ps Ms := A
    refine pl_tail (a := a) (B := B) ⟨hn2, hn8⟩ hp hi hB2 hB8 A fun s' h => ?_
    exact scut_normal (Q := fun _ _ => True) ⟨(Ps, Ms), A⟩ h
  ·rintro ⟨⟨Ps, Ms⟩, A⟩
   have A : PGI n (i + 1) Ps Ms := A
   refine inQ hn8 rfl (Sem.of_evC hm T_ok hΓ rfl ?_)
   refine evC_wk (s' := ⟨[(0, 0, zI n), (0, 1, Cont.cell (AV.rs 6 m false fun j => actV (acts j))), (0, 5, zV 55), (0, 7, zV 56), (0, 9, zV 57), (0, 10, zI i), (55, 0, .vec 1 28 n ptQ), (56, 0, .vec 1 54 n ptD), (57, 0, Cont.vec 1 9 Ms.length (nSt Ms))], 58, 270⟩) _ (wk_go [55, 56, 57] rfl (by decide) rfl rfl ⟨⟨_, rfl, rfl⟩, ⟨_, rfl, rfl⟩, ⟨_, rfl, rfl⟩, ⟨_, rfl, rfl⟩, ⟨_, rfl, rfl⟩, ⟨_, rfl, rfl⟩, ⟨_, rfl, ?_⟩, ⟨_, rfl, ?_⟩, ⟨_, rfl, rfl, rfl, rfl, fun _ _ => rfl⟩, trivial⟩) ?_
   ·exact cu_Q hn8 (by decide)
   ·exact cu_D hn8 (by decide)
   refine evC_goL0K (s' := ⟨[(0, 0, zI n), (0, 1, .cell (AV.rs 6 m false fun j => actV (acts j))), (0, 5, zV 55), (0, 7, zV 56), (0, 9, zV 57), (0, 10, zI (IntKind.i64.wrap ((↑i : Int) + 1))), (55, 0, .vec 1 28 n ptQ), (56, 0, .vec 1 54 n ptD), (57, 0, .vec 1 9 Ms.length (nSt Ms))], 154, 270⟩) ?_
   refine sframe_at ?_
   rw [i64_in ((i : Int) + 1) (by omega)]
   exact sround_normal ⟨(i + 1, Ps, Ms), hlt.2, A⟩ (.up rfl (Nat.le_of_ble_eq_true rfl) rfl) (by show 80 - (i + 1) < 80 - i; omega)
 ·clear hc
  refine Sem.exit ?_
  refine sthen_exit ?_
  refine sround_exit ?_
  refine block_exit ?_
  refine sthen_normal ?_
  refine Sem.seq ?_
  refine Sem.wk (Wk.imp' (wk_sub [] rfl rfl rfl)) ?_
  refine Sem.of_evC hm T_ok hΓ rfl ?_
  refine evC_goL0K (s' := ⟨[(0, 4, zB true)], 9320, 270⟩) ?_
  refine sthen_normal ?_
  refine Sem.ret ?_
  refine post_ret ?_
  refine ends_flat (vs := [AV.bool true]) (Nat.zero_lt_succ _) (by kernel_rfl) (flat_of _ (by kernel_rfl)) rfl ?_
  rfl
end Go.Eng.S25