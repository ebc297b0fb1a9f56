/- Seat 25: the law of agreement, walked. -/
import Derived.Test.YtodnecfgiimclaaEngX
import Derived.Test.YtodnecfgiimclaaS25BG
set_option linter.unusedSimpArgs false
set_option linter.unusedVariables false
namespace Go.Eng.S25
open Go.Proofs Go.IntWalk
set_option maxRecDepth 10000

def am37 (r nx k m : Nat) : Nat := if m = 0 then 0 else if m = 37 then r else if m ≤ 3 * k then r + m else m + nx
theorem after_made37 {A A' : Heap} {k r nx N : Nat} {f : Nat → AV} (hk : k ≤ 8) (hr : 0 < r ∧ r + 3 * k < nx) (hA : slotsB A = true) (hA' : slotsB A' = true) (cA : ConvS (am37 r nx k) A A') (hf : ∀ i, i < k → f i = ptF i) :
    Imp 1 ⟨A ++ ((r, 0, .vec 1 28 k (ptN (r + 1))) :: famH peerL 3 (r + 1) (newF k) k), nx, N⟩ ⟨(A' ++ [(37, 0, .vec 1 28 k f)]) ++ famP (newF k) k, 38, N⟩ := by
  have nA := slotsB_get hA
  have a37 : am37 r nx k 37 = r := rfl
  have aP : ∀ m, 0 < m → m ≤ 3 * k → am37 r nx k m = r + m := fun m h1 h2 => by unfold am37; rw [if_neg (by omega), if_neg (by omega), if_pos h2]
  refine RenL.imp (π := am37 r nx k) ⟨rfl, by show 0 < 38; omega, fun n hn => by unfold am37; rw [if_pos (by omega)]; omega, rfl, fun n m h => ?_, fun n hn => ?_, fun m o c' e => ?_⟩
  · unfold am37 at h
    split at h <;> split at h <;> (try split at h) <;> (try split at h) <;> (try split at h) <;> (try split at h) <;> omega
  · have : 38 ≤ n := hn
    unfold am37
    rw [if_neg (by omega), if_neg (by omega), if_neg (by omega)]
    show nx ≤ n + nx
    omega
  rcases app_or e with e | e
  · rcases app_or e with e1 | e1
    · have h0 : m = 0 := slotsB_get hA' _ (hget_in e1)
      subst h0
      obtain ⟨c, h1, h2⟩ := cA.get e1
      exact ⟨c, app_left h1, h2⟩
    · rw [hget_cons] at e1
      split at e1
      · rename_i he
        obtain ⟨rfl, rfl⟩ := he
        injection e1 with e2; subst e2
        refine ⟨.vec 1 28 k (ptN (r + 1)), ?_, rfl, rfl, rfl, fun i hi => ?_⟩
        · rw [a37]
          refine app_get (by rw [hget_cons, if_pos ⟨rfl, rfl⟩]) fun x hx hxe => ?_
          have := nA x hx; omega
        · rw [hf i hi]
          show AV.ptr (r + 1 + 3 * i) 0 = AV.ptr (am37 r nx k (1 + 3 * i)) 0
          rw [aP _ (by omega) (by omega)]
          congr 1
          omega
      · cases e1
  · obtain ⟨j, j1, j2⟩ := famH_of e
    have h0 : 1 + 3 * j ≤ m ∧ m < 1 + 3 * j + 3 := peerL_lot.names _ _ _ (hget_in j2)
    obtain ⟨c, q1, q2⟩ := peerL_lot.eqv (r + 1 + 3 * j) (1 + 3 * j) _ _ _ _ j2
    refine ⟨c, ?_, q2 _ fun i hi => by rw [aP _ (by omega) (by omega)]; omega⟩
    rw [aP _ (by omega) (by omega)]
    rw [show m - (1 + 3 * j) + (r + 1 + 3 * j) = r + m by omega] at q1
    refine app_get ?_ fun x hx hxe => ?_
    · rw [hget_cons, if_neg (fun q => by have := q.1; omega)]
      exact famH_get peerL_lot j1 q1
    · have := nA x hx; omega
/-- The peers are left aside. -/
theorem inF37 {n : Nat} {xs : Nat → Peer} {c : Code} {Q : Exit → St → Prop} {s : St} (hn : n ≤ 8) (hc : coreX s.h = true) (h : Sem Try.prog 37 c (SFrame (famP xs n) Q) s) : Sem Try.prog 1 c Q (s.app (famP xs n)) := by
  have hX := coreX_get hc
  exact Sem.frame (B' := 37) (by decide) (fun x hx => ⟨by have := famP_at hn xs x hx; omega, by have := famP_at hn xs x hx; omega, (famP_low hn xs (by decide : 25 ≤ 37) x hx).2.2⟩) (fun x hx y hy => by have := famP_at hn xs y hy; have := hX x hx; omega) h
theorem inInit {n j : Nat} {xs : Nat → Peer} {Is : Iss} {c : Code} {Q : Exit → St → Prop} {s : St} (hn : n ≤ 8) (hj : j ≤ 8) (hc : coreX s.h = true) (h : Sem Try.prog 37 c (SFrame (famI Is j) (SFrame (famP xs n) Q)) s) : Sem Try.prog 1 c Q ((s.app (famI Is j)).app (famP xs n)) :=
  inF2 (famP_at hn xs) (fun x hx => (famP_low hn xs (by decide : 25 ≤ 37) x hx).2.2) (famI_at hj Is) (fun x hx => (famI_low hj Is (by decide : 36 ≤ 37) x hx).2.2) hc h
/-- The rows of the first j peers are there. -/
def initF (j i : Nat) : AV := bif Nat.blt i j then .vs (28 + i) else .nils
theorem cwV_init {B n j nx : Nat} {l : List Nat} (hn : n ≤ 8) (hB : 36 ≤ B) : CW (pi B nx l) (.vec 1 40 n (initF j)) (.vec 1 40 n (initF j)) := by
  refine ⟨rfl, rfl, rfl, fun i hi => ?_⟩
  unfold initF
  cases Nat.blt i j with
  | true =>
    show AV.vs _ = AV.vs (pi B nx l (28 + i))
    rw [pi_lt (by omega)]
  | false => rfl
theorem jn_pt {n j a nx : Nat} (hn : n ≤ 8) (ha : 37 ≤ a) : CW (jn 1 (28 + j) a nx) (.vec 1 28 n ptF) (.vec 1 28 n ptF) := by
  refine ⟨rfl, rfl, rfl, fun i hi => ?_⟩
  show AV.ptr _ 0 = AV.ptr (jn 1 (28 + j) a nx (1 + 3 * i)) 0
  unfold jn
  rw [if_neg (by omega), if_neg (by omega)]
theorem jn_init {n j a nx : Nat} (hn : n ≤ 8) (hj : j < n) (ha : 37 ≤ a) : CW (jn 1 (28 + j) a nx) (.vec 1 40 n (initF (j + 1))) (.vec 1 40 n fun i => bif i == j then .vs a else initF j i) := by
  refine ⟨rfl, rfl, rfl, fun i hi => ?_⟩
  show (bif i == j then AV.vs a else initF j i) = (initF (j + 1) i).ren _
  unfold initF
  by_cases h : i = j
  · subst h
    rw [beq_self_eq_true, cond_true, nblt_yes (by omega), cond_true]
    show AV.vs a = AV.vs (jn 1 (28 + i) a nx (28 + i))
    unfold jn
    rw [if_pos (by omega)]
    congr 1
    omega
  · have hb : (i == j) = false := by simpa using h
    rw [hb, cond_false]
    by_cases h1 : i < j
    · rw [nblt_yes h1, nblt_yes (by omega : i < j + 1), cond_true]
      show AV.vs (28 + i) = AV.vs (jn 1 (28 + j) a nx (28 + i))
      unfold jn
      rw [if_neg (by omega), if_neg (by omega)]
    · rw [nblt_no h1, nblt_no (by omega : ¬ i < j + 1), cond_false]
      rfl
theorem jn_vs {j a nx m : Nat} (hj : j < 8) (h1 : 37 ≤ m) (h2 : m < a) : CW (jn 1 (28 + j) a nx) (.cell (.vs m)) (.cell (.vs m)) := by
  show AV.vs m = AV.vs (jn 1 (28 + j) a nx m)
  rw [jn_low (by omega) (by omega)]
theorem AGI.up {n i : Nat} {Ps : Nat → Peer} {Is : Iss} {Ts : Nat → Int} {Ms : List (List Int)} (A : AGI n i Ps Is Ts Ms) : AGI n (i + 1) Ps Is Ts Ms :=
  ⟨A.ag, A.km, Nat.le_succ_of_le A.len, fun p hp => by have := A.ts p hp; omega⟩
theorem agree_walk {n0 : Int} {m nb : Nat} {acts : Nat → Act} {sd : List Prop} (hm0 : m ≤ maxLen) (hA : ∀ j, j < m → IsU (acts j).B ∧ (acts j).B.length ≤ maxLen) : Sem Try.prog 1 (Try.f4.body.getD .skip) (Post T Try.f4 [] nb ⟨sd, .bool true, [], []⟩ true) ⟨slots0 0 [.int .i64 n0, .rs 6 m false fun j => actV (acts j)], 1, Try.f4.ntmps⟩ := by
  have hm : Try.prog.follows .mixedOrders = true := by kernel_rfl
  have hΓ : SpecsOK Try.prog [(8, sPeers), (15, sAwake)] := sget_cons peers_ok (sget_cons awake_ok sget_nil)
  have hΓ2 : SpecsOK Try.prog [(14, pin 25 sTurn), (17, pin 25 sDesync)] := sget_cons (pin_ok 25 turn_ok) (sget_cons (pin_ok 25 desync_ok) sget_nil)
  obtain ⟨n, hn0, hn2, hn8⟩ := peersI_ok n0
  refine Sem.seq ?_
  refine Sem.of_evC hm T_ok hΓ rfl ?_
  refine evC_goL0 (dec := []) (ks := [(0, 0), (0, 1), (0, 4)]) (s' := ⟨[(0, 0, Cont.cell (AV.int IntKind.i64 n0)), (0, 1, Cont.cell (AV.rs 6 m false fun j => actV (acts j))), (0, 4, Cont.cell (AV.bool false))], 33, 229⟩) (by kernel_rfl) (by kernel_rfl) ?_
  refine sthen_normal ?_
  refine Sem.seq ?_
  refine Sem.of_evC hm T_ok hΓ rfl ?_
  refine evC_goL0 (dec := []) (ks := [(0, 0), (0, 1), (0, 4)]) (s' := ⟨[(0, 0, Cont.cell (AV.int IntKind.i64 (peersI n0))), (0, 1, Cont.cell (AV.rs 6 m false fun j => actV (acts j))), (0, 4, Cont.cell (AV.bool false))], 129, 229⟩) (by kernel_rfl) (by kernel_rfl) ?_
  rw [hn0]
  refine sthen_normal ?_
  refine Sem.seq ?_
  refine sem_cutS (ι := Unit) (fun _ => St.app ⟨[(0, 0, .cell (.int .i64 (n : Nat))), (0, 1, .cell (.rs 6 m false fun j => actV (acts j))), (0, 5, .cell (.vs 37)), (0, 6, .cell (.bool true)), (37, 0, .vec 1 28 n ptF)], 9000, 229⟩ (famP (newF n) n)) ?_ ?_
  · rcases (by omega : n = 2 ∨ n = 3 ∨ n = 4 ∨ n = 5 ∨ n = 6 ∨ n = 7 ∨ n = 8) with rfl | rfl | rfl | rfl | rfl | rfl | rfl
    · refine Sem.of_evC hm T_ok (sget_cons (made_ok 2 (by decide)) sget_nil) rfl ?_
      refine evC_goL (dec := []) (ks := [(0, 0), (0, 1), (0, 5), (0, 6), (161, 0)] ++ (famH peerL 3 162 (newF 2) 2).map fun x => (x.1, x.2.1)) (ps := [(↑(2 : Nat) : Int) = (↑(2 : Nat) : Int)]) (s' := ⟨[(0, 0, .cell (.int .i64 (2 : Nat))), (0, 1, .cell (.rs 6 m false fun j => actV (acts j))), (0, 5, .cell (.vs 161)), (0, 6, .cell (.bool true))] ++ ((161, 0, .vec 1 28 2 (ptN 162)) :: famH peerL 3 162 (newF 2) 2), 353, 229⟩) (by kernel_rfl) (by kernel_rfl) rfl ?_
      exact scut_normal () (.trans (after_made37 (A' := [(0, 0, .cell (.int .i64 (2 : Nat))), (0, 1, .cell (.rs 6 m false fun j => actV (acts j))), (0, 5, .cell (.vs 37)), (0, 6, .cell (.bool true))]) (by decide) (by decide) rfl rfl ⟨⟨rfl, rfl, rfl⟩, ⟨rfl, rfl, rfl⟩, ⟨rfl, rfl, rfl⟩, ⟨rfl, rfl, rfl⟩, trivial⟩ fun _ _ => rfl) (.up rfl (Nat.le_of_ble_eq_true rfl) rfl))
    · refine Sem.of_evC hm T_ok (sget_cons (made_ok 3 (by decide)) sget_nil) rfl ?_
      refine evC_goL (dec := []) (ks := [(0, 0), (0, 1), (0, 5), (0, 6), (161, 0)] ++ (famH peerL 3 162 (newF 3) 3).map fun x => (x.1, x.2.1)) (ps := [(↑(3 : Nat) : Int) = (↑(3 : Nat) : Int)]) (s' := ⟨[(0, 0, .cell (.int .i64 (3 : Nat))), (0, 1, .cell (.rs 6 m false fun j => actV (acts j))), (0, 5, .cell (.vs 161)), (0, 6, .cell (.bool true))] ++ ((161, 0, .vec 1 28 3 (ptN 162)) :: famH peerL 3 162 (newF 3) 3), 353, 229⟩) (by kernel_rfl) (by kernel_rfl) rfl ?_
      exact scut_normal () (.trans (after_made37 (A' := [(0, 0, .cell (.int .i64 (3 : Nat))), (0, 1, .cell (.rs 6 m false fun j => actV (acts j))), (0, 5, .cell (.vs 37)), (0, 6, .cell (.bool true))]) (by decide) (by decide) rfl rfl ⟨⟨rfl, rfl, rfl⟩, ⟨rfl, rfl, rfl⟩, ⟨rfl, rfl, rfl⟩, ⟨rfl, rfl, rfl⟩, trivial⟩ fun _ _ => rfl) (.up rfl (Nat.le_of_ble_eq_true rfl) rfl))
    · refine Sem.of_evC hm T_ok (sget_cons (made_ok 4 (by decide)) sget_nil) rfl ?_
      refine evC_goL (dec := []) (ks := [(0, 0), (0, 1), (0, 5), (0, 6), (161, 0)] ++ (famH peerL 3 162 (newF 4) 4).map fun x => (x.1, x.2.1)) (ps := [(↑(4 : Nat) : Int) = (↑(4 : Nat) : Int)]) (s' := ⟨[(0, 0, .cell (.int .i64 (4 : Nat))), (0, 1, .cell (.rs 6 m false fun j => actV (acts j))), (0, 5, .cell (.vs 161)), (0, 6, .cell (.bool true))] ++ ((161, 0, .vec 1 28 4 (ptN 162)) :: famH peerL 3 162 (newF 4) 4), 353, 229⟩) (by kernel_rfl) (by kernel_rfl) rfl ?_
      exact scut_normal () (.trans (after_made37 (A' := [(0, 0, .cell (.int .i64 (4 : Nat))), (0, 1, .cell (.rs 6 m false fun j => actV (acts j))), (0, 5, .cell (.vs 37)), (0, 6, .cell (.bool true))]) (by decide) (by decide) rfl rfl ⟨⟨rfl, rfl, rfl⟩, ⟨rfl, rfl, rfl⟩, ⟨rfl, rfl, rfl⟩, ⟨rfl, rfl, rfl⟩, trivial⟩ fun _ _ => rfl) (.up rfl (Nat.le_of_ble_eq_true rfl) rfl))
    · refine Sem.of_evC hm T_ok (sget_cons (made_ok 5 (by decide)) sget_nil) rfl ?_
      refine evC_goL (dec := []) (ks := [(0, 0), (0, 1), (0, 5), (0, 6), (161, 0)] ++ (famH peerL 3 162 (newF 5) 5).map fun x => (x.1, x.2.1)) (ps := [(↑(5 : Nat) : Int) = (↑(5 : Nat) : Int)]) (s' := ⟨[(0, 0, .cell (.int .i64 (5 : Nat))), (0, 1, .cell (.rs 6 m false fun j => actV (acts j))), (0, 5, .cell (.vs 161)), (0, 6, .cell (.bool true))] ++ ((161, 0, .vec 1 28 5 (ptN 162)) :: famH peerL 3 162 (newF 5) 5), 353, 229⟩) (by kernel_rfl) (by kernel_rfl) rfl ?_
      exact scut_normal () (.trans (after_made37 (A' := [(0, 0, .cell (.int .i64 (5 : Nat))), (0, 1, .cell (.rs 6 m false fun j => actV (acts j))), (0, 5, .cell (.vs 37)), (0, 6, .cell (.bool true))]) (by decide) (by decide) rfl rfl ⟨⟨rfl, rfl, rfl⟩, ⟨rfl, rfl, rfl⟩, ⟨rfl, rfl, rfl⟩, ⟨rfl, rfl, rfl⟩, trivial⟩ fun _ _ => rfl) (.up rfl (Nat.le_of_ble_eq_true rfl) rfl))
    · refine Sem.of_evC hm T_ok (sget_cons (made_ok 6 (by decide)) sget_nil) rfl ?_
      refine evC_goL (dec := []) (ks := [(0, 0), (0, 1), (0, 5), (0, 6), (161, 0)] ++ (famH peerL 3 162 (newF 6) 6).map fun x => (x.1, x.2.1)) (ps := [(↑(6 : Nat) : Int) = (↑(6 : Nat) : Int)]) (s' := ⟨[(0, 0, .cell (.int .i64 (6 : Nat))), (0, 1, .cell (.rs 6 m false fun j => actV (acts j))), (0, 5, .cell (.vs 161)), (0, 6, .cell (.bool true))] ++ ((161, 0, .vec 1 28 6 (ptN 162)) :: famH peerL 3 162 (newF 6) 6), 353, 229⟩) (by kernel_rfl) (by kernel_rfl) rfl ?_
      exact scut_normal () (.trans (after_made37 (A' := [(0, 0, .cell (.int .i64 (6 : Nat))), (0, 1, .cell (.rs 6 m false fun j => actV (acts j))), (0, 5, .cell (.vs 37)), (0, 6, .cell (.bool true))]) (by decide) (by decide) rfl rfl ⟨⟨rfl, rfl, rfl⟩, ⟨rfl, rfl, rfl⟩, ⟨rfl, rfl, rfl⟩, ⟨rfl, rfl, rfl⟩, trivial⟩ fun _ _ => rfl) (.up rfl (Nat.le_of_ble_eq_true rfl) rfl))
    · refine Sem.of_evC hm T_ok (sget_cons (made_ok 7 (by decide)) sget_nil) rfl ?_
      refine evC_goL (dec := []) (ks := [(0, 0), (0, 1), (0, 5), (0, 6), (161, 0)] ++ (famH peerL 3 162 (newF 7) 7).map fun x => (x.1, x.2.1)) (ps := [(↑(7 : Nat) : Int) = (↑(7 : Nat) : Int)]) (s' := ⟨[(0, 0, .cell (.int .i64 (7 : Nat))), (0, 1, .cell (.rs 6 m false fun j => actV (acts j))), (0, 5, .cell (.vs 161)), (0, 6, .cell (.bool true))] ++ ((161, 0, .vec 1 28 7 (ptN 162)) :: famH peerL 3 162 (newF 7) 7), 353, 229⟩) (by kernel_rfl) (by kernel_rfl) rfl ?_
      exact scut_normal () (.trans (after_made37 (A' := [(0, 0, .cell (.int .i64 (7 : Nat))), (0, 1, .cell (.rs 6 m false fun j => actV (acts j))), (0, 5, .cell (.vs 37)), (0, 6, .cell (.bool true))]) (by decide) (by decide) rfl rfl ⟨⟨rfl, rfl, rfl⟩, ⟨rfl, rfl, rfl⟩, ⟨rfl, rfl, rfl⟩, ⟨rfl, rfl, rfl⟩, trivial⟩ fun _ _ => rfl) (.up rfl (Nat.le_of_ble_eq_true rfl) rfl))
    · refine Sem.of_evC hm T_ok (sget_cons (made_ok 8 (by decide)) sget_nil) rfl ?_
      refine evC_goL (dec := []) (ks := [(0, 0), (0, 1), (0, 5), (0, 6), (161, 0)] ++ (famH peerL 3 162 (newF 8) 8).map fun x => (x.1, x.2.1)) (ps := [(↑(8 : Nat) : Int) = (↑(8 : Nat) : Int)]) (s' := ⟨[(0, 0, .cell (.int .i64 (8 : Nat))), (0, 1, .cell (.rs 6 m false fun j => actV (acts j))), (0, 5, .cell (.vs 161)), (0, 6, .cell (.bool true))] ++ ((161, 0, .vec 1 28 8 (ptN 162)) :: famH peerL 3 162 (newF 8) 8), 353, 229⟩) (by kernel_rfl) (by kernel_rfl) rfl ?_
      exact scut_normal () (.trans (after_made37 (A' := [(0, 0, .cell (.int .i64 (8 : Nat))), (0, 1, .cell (.rs 6 m false fun j => actV (acts j))), (0, 5, .cell (.vs 37)), (0, 6, .cell (.bool true))]) (by decide) (by decide) rfl rfl ⟨⟨rfl, rfl, rfl⟩, ⟨rfl, rfl, rfl⟩, ⟨rfl, rfl, rfl⟩, ⟨rfl, rfl, rfl⟩, trivial⟩ fun _ _ => rfl) (.up rfl (Nat.le_of_ble_eq_true rfl) rfl))
  rintro ⟨⟩
  refine Sem.seq ?_
  refine Sem.seq ?_
  refine inF37 hn8 rfl (Sem.of_evC hm T_ok hΓ rfl ?_)
  refine evC_goL0 (dec := []) (ks := [(0, 0), (0, 1), (0, 5), (0, 30), (37, 0)]) (s' := ⟨[(0, 0, Cont.cell (AV.int IntKind.i64 (↑n : Int))), (0, 1, Cont.cell (AV.rs 6 m false fun j => actV (acts j))), (0, 5, Cont.cell (AV.vs 37)), (0, 30, Cont.cell (AV.bool false)), (37, 0, Cont.vec 1 28 n ptF)], 9064, 229⟩) (by kernel_rfl) (by kernel_rfl) ?_
  refine sframe_at ?_
  refine sthen_normal ?_
  refine sem_if (q := false) (by kernel_rfl) (fun hc => ?_) (fun hc => ?_)
  · cases hc
  clear hc
  refine Sem.skip ?_
  refine sthen_normal ?_
  refine Sem.seq ?_
  refine inF37 hn8 rfl (Sem.of_evC hm T_ok hΓ rfl ?_)
  refine evC_wk (s' := ⟨[(0, 0, Cont.cell (AV.int IntKind.i64 (↑n : Int))), (0, 1, Cont.cell (AV.rs 6 m false fun j => actV (acts j))), (0, 5, Cont.cell (AV.vs 37)), (0, 30, Cont.cell (AV.bool false)), (37, 0, Cont.vec 1 28 n ptF)], 38, 229⟩) _ (wk_go [37] rfl (by decide) rfl rfl ⟨⟨_, rfl, rfl⟩, ⟨_, rfl, rfl⟩, ⟨_, rfl, rfl⟩, ⟨_, rfl, rfl⟩, ⟨_, rfl, Go.Eng.S25.cwV_pt (by assumption) (by decide)⟩, trivial⟩) ?_
  refine evC_goL (dec := []) (ks := [(0, 0), (0, 1), (0, 5), (0, 7), (37, 0), (70, 0)]) (ps := [(0 : Int) ≤ (↑n : Int), (↑n : Int) = (↑n : Int), (↑(24 : Nat) : Int) * (↑n : Int) ≤ (281474976710656 : Int), (↑n : Int) ≤ (9223372036854775807 : Int)]) (s' := ⟨[(0, 0, Cont.cell (AV.int IntKind.i64 (↑n : Int))), (0, 1, Cont.cell (AV.rs 6 m false fun j => actV (acts j))), (0, 5, Cont.cell (AV.vs 37)), (0, 7, Cont.cell (AV.vs 70)), (37, 0, Cont.vec 1 28 n ptF), (70, 0, Cont.vec 1 40 n fun x => AV.nils)], 134, 229⟩) (by kernel_rfl) (by kernel_rfl) ?_ ?_
  · exact ⟨by omega, rfl, by show (24 : Int) * (n : Nat) ≤ _; omega, by show (n : Int) ≤ 9223372036854775807; omega⟩
  refine sframe_at (sthen_normal ?_)
  refine Sem.seq ?_
  refine Sem.seq ?_
  refine inF37 hn8 rfl (Sem.of_evC hm T_ok hΓ rfl ?_)
  refine evC_wk (s' := ⟨[(0, 0, Cont.cell (AV.int IntKind.i64 (↑n : Int))), (0, 1, Cont.cell (AV.rs 6 m false fun j => actV (acts j))), (0, 5, Cont.cell (AV.vs 37)), (0, 7, Cont.cell (AV.vs 38)), (37, 0, Cont.vec 1 28 n ptF), (38, 0, .vec 1 40 n (initF 0))], 39, 229⟩) _ (wk_go [37, 70] rfl (by decide) rfl rfl ⟨⟨_, rfl, rfl⟩, ⟨_, rfl, rfl⟩, ⟨_, rfl, rfl⟩, ⟨_, rfl, rfl⟩, ⟨_, rfl, Go.Eng.S25.cwV_pt (by assumption) (by decide)⟩, ⟨_, rfl, ⟨rfl, rfl, rfl, fun _ _ => rfl⟩⟩, trivial⟩) ?_
  refine evC_goL0 (dec := []) (ks := [(0, 0), (0, 1), (0, 5), (0, 7), (0, 8), (37, 0), (38, 0)]) (s' := ⟨[(0, 0, Cont.cell (AV.int IntKind.i64 (↑n : Int))), (0, 1, Cont.cell (AV.rs 6 m false fun j => actV (acts j))), (0, 5, Cont.cell (AV.vs 37)), (0, 7, Cont.cell (AV.vs 38)), (0, 8, Cont.cell (AV.int IntKind.i64 0)), (37, 0, Cont.vec 1 28 n ptF), (38, 0, Cont.vec 1 40 n (initF 0))], 71, 229⟩) (by kernel_rfl) (by kernel_rfl) ?_
  refine sframe_at ?_
  refine sthen_normal ?_
  refine Sem.block ?_
  refine Sem.loop (ι := { j : Nat // j ≤ n }) (fun x => (St.app ⟨[(0, 0, .cell (.int .i64 (n : Nat))), (0, 1, .cell (.rs 6 m false fun j => actV (acts j))), (0, 5, .cell (.vs 37)), (0, 7, .cell (.vs 38)), (0, 8, .cell (.int .i64 (x.1 : Nat))), (37, 0, .vec 1 28 n ptF), (38, 0, .vec 1 40 n (initF x.1))], 6000, 229⟩ (famI (fun _ => [[], []]) x.1)).app (famP (newF n) n)) (fun x => n - x.1) ⟨0, Nat.zero_le _⟩ (.up rfl (Nat.le_of_ble_eq_true rfl) rfl) ?_
  rintro ⟨j, hj⟩
  refine Sem.seq ?_
  refine Sem.seq ?_
  refine inInit hn8 (Nat.le_trans hj hn8) rfl (Sem.of_evC hm T_ok hΓ rfl ?_)
  refine evC_goL0 (dec := []) (ks := [(0, 0), (0, 1), (0, 5), (0, 7), (0, 8), (0, 35), (37, 0), (38, 0)]) (s' := ⟨[(0, 0, Cont.cell (AV.int IntKind.i64 (↑n : Int))), (0, 1, Cont.cell (AV.rs 6 m false fun j => actV (acts j))), (0, 5, Cont.cell (AV.vs 37)), (0, 7, Cont.cell (AV.vs 38)), (0, 8, Cont.cell (AV.int IntKind.i64 (↑j : Int))), (0, 35, Cont.cell (AV.bool (decide ((↑j : Int) < (↑n : Int))))), (37, 0, Cont.vec 1 28 n ptF), (38, 0, Cont.vec 1 40 n (initF j))], 6096, 229⟩) (by kernel_rfl) (by kernel_rfl) ?_
  refine sframe_at ?_
  refine sframe_at ?_
  refine sthen_normal ?_
  refine sem_if (q := decide ((↑j : Int) < (↑n : Int))) (by kernel_rfl) (fun hc => ?_) (fun hc => ?_)
  · have hjn : j < n := by have := of_decide_eq_true hc; omega
    clear hc
    refine Sem.skip ?_
    refine sthen_normal ?_
    refine Sem.seq ?_
    refine Sem.block ?_
    refine inInit hn8 (Nat.le_trans hj hn8) rfl (Sem.of_evC hm T_ok hΓ rfl ?_)
    refine evC_goL (dec := []) (ks := [(0, 0), (0, 1), (0, 5), (0, 7), (0, 8), (37, 0), (38, 0), (6160, 0)]) (ps := [(0 : Int) ≤ (↑j : Int), (↑j : Int) < (↑n : Int), (1 : Nat) = (1 : Nat), (0 : Int) ≤ (↑j : Int), (↑j : Int) < (↑n : Int), (1 : Nat) = (1 : Nat), widthC (AV.cells (AV.vs (6160 : Nat))) = (1 : Nat)]) (s' := ⟨[(0, 0, Cont.cell (AV.int IntKind.i64 (↑n : Int))), (0, 1, Cont.cell (AV.rs 6 m false fun j => actV (acts j))), (0, 5, Cont.cell (AV.vs 37)), (0, 7, Cont.cell (AV.vs 38)), (0, 8, Cont.cell (AV.int IntKind.i64 (↑j : Int))), (37, 0, Cont.vec 1 28 n ptF), (38, 0, Cont.vec 1 40 n fun j_1 => bif j_1 == j then AV.vs 6160 else initF j j_1), (6160, 0, Cont.vec 1 9 2 (pget [(0, AV.str { data := #[] }), (1, AV.str { data := #[] })]))], 6256, 229⟩) (by kernel_rfl) (by kernel_rfl) ?_ ?_
    · exact ⟨by omega, by omega, rfl, by omega, by omega, rfl, rfl⟩
    refine sframe_at ?_
    refine sframe_at ?_
    refine block_normal ?_
    refine sthen_normal ?_
    refine Sem.wk (.trans (conv3 (nx' := 6256) (h' := [(0, 0, .cell (.int .i64 (n : Nat))), (0, 1, .cell (.rs 6 m false fun j => actV (acts j))), (0, 5, .cell (.vs 37)), (0, 7, .cell (.vs 38)), (0, 8, .cell (.int .i64 (j : Nat))), (37, 0, .vec 1 28 n ptF), (38, 0, .vec 1 40 n fun x => bif x == j then .vs 6160 else initF j x), (6160, 0, .vec 1 9 ([[], []] : List (List Int)).length (nS [[], []]))]) ⟨⟨_, rfl, cw_id _⟩, ⟨_, rfl, cw_id _⟩, ⟨_, rfl, cw_id _⟩, ⟨_, rfl, cw_id _⟩, ⟨_, rfl, cw_id _⟩, ⟨_, rfl, cw_id _⟩, ⟨_, rfl, cw_id _⟩, ⟨_, rfl, ⟨rfl, rfl, rfl, fun x hx => ?_⟩⟩, trivial⟩ rfl (famP_at hn8 _) (famI_at (Nat.le_trans hj hn8) _) (by decide) (Nat.le_refl _)) (collI (y := [[], []]) (a := 6160) (A := [(0, 0, .cell (.int .i64 (n : Nat))), (0, 1, .cell (.rs 6 m false fun j => actV (acts j))), (0, 5, .cell (.vs 37)), (0, 7, .cell (.vs 38)), (0, 8, .cell (.int .i64 (j : Nat)))]) (C := [(37, 0, .vec 1 28 n ptF), (38, 0, .vec 1 40 n fun x => bif x == j then .vs 6160 else initF j x)]) (A' := [(0, 0, .cell (.int .i64 (n : Nat))), (0, 1, .cell (.rs 6 m false fun j => actV (acts j))), (0, 5, .cell (.vs 37)), (0, 7, .cell (.vs 38)), (0, 8, .cell (.int .i64 (j : Nat)))]) (C' := [(37, 0, .vec 1 28 n ptF), (38, 0, .vec 1 40 n (initF (j + 1)))]) (nx' := 6256) (by omega) (Nat.le_of_ble_eq_true rfl) (Nat.le_of_ble_eq_true rfl) (Nat.le_of_ble_eq_true rfl) rfl (fun x hx => ?_) (fun x hx => ?_) rfl ⟨⟨rfl, rfl, rfl⟩, ⟨rfl, rfl, rfl⟩, ⟨rfl, rfl, jn_vs (by omega) (by decide) (Nat.le_of_ble_eq_true rfl)⟩, ⟨rfl, rfl, jn_vs (by omega) (by decide) (Nat.le_of_ble_eq_true rfl)⟩, ⟨rfl, rfl, rfl⟩, trivial⟩ ⟨⟨rfl, rfl, jn_pt hn8 (Nat.le_of_ble_eq_true rfl)⟩, ⟨rfl, rfl, jn_init hn8 hjn (Nat.le_of_ble_eq_true rfl)⟩, trivial⟩ hn8)) ?_
    · rcases (by have hx : x < 2 := hx; omega : x = 0 ∨ x = 1) with rfl | rfl <;> rfl
    · rcases List.mem_cons.1 hx with rfl | hx
      · exact ⟨Nat.le_of_ble_eq_true rfl, Nat.le_of_ble_eq_true rfl⟩
      · rw [List.mem_singleton.1 hx]
        exact ⟨Nat.le_of_ble_eq_true rfl, Nat.le_of_ble_eq_true rfl⟩
    · rcases List.mem_cons.1 hx with rfl | hx
      · exact ⟨Nat.le_of_ble_eq_true rfl, Nat.le_of_ble_eq_true rfl⟩
      · rw [List.mem_singleton.1 hx]
        exact ⟨Nat.le_of_ble_eq_true rfl, Nat.le_of_ble_eq_true rfl⟩
    rw [updF_selfI (fun _ => [[], []]) j]
    refine inInit hn8 (Nat.le_trans hjn hn8) rfl (Sem.of_evC hm T_ok hΓ rfl ?_)
    refine evC_wk (s' := ⟨[(0, 0, Cont.cell (AV.int IntKind.i64 (↑n : Int))), (0, 1, Cont.cell (AV.rs 6 m false fun j => actV (acts j))), (0, 5, Cont.cell (AV.vs 37)), (0, 7, Cont.cell (AV.vs 38)), (0, 8, Cont.cell (AV.int IntKind.i64 (↑j : Int))), (37, 0, Cont.vec 1 28 n ptF), (38, 0, Cont.vec 1 40 n (initF (j + 1)))], 39, 229⟩) _ (wk_go [37, 38] rfl (by decide) rfl rfl ⟨⟨_, rfl, rfl⟩, ⟨_, rfl, rfl⟩, ⟨_, rfl, rfl⟩, ⟨_, rfl, rfl⟩, ⟨_, rfl, rfl⟩, ⟨_, rfl, Go.Eng.S25.cwV_pt (by assumption) (by decide)⟩, ⟨_, rfl, Go.Eng.S25.cwV_init (by assumption) (by decide)⟩, trivial⟩) ?_
    refine evC_goL0 (dec := []) (ks := [(0, 0), (0, 1), (0, 5), (0, 7), (0, 8), (37, 0), (38, 0)]) (s' := ⟨[(0, 0, Cont.cell (AV.int IntKind.i64 (↑n : Int))), (0, 1, Cont.cell (AV.rs 6 m false fun j => actV (acts j))), (0, 5, Cont.cell (AV.vs 37)), (0, 7, Cont.cell (AV.vs 38)), (0, 8, Cont.cell (AV.int IntKind.i64 (IntKind.i64.wrap ((↑j : Int) + 1)))), (37, 0, Cont.vec 1 28 n ptF), (38, 0, Cont.vec 1 40 n (initF (j + 1)))], 135, 229⟩) (by kernel_rfl) (by kernel_rfl) ?_
    refine sframe_at ?_
    refine sframe_at ?_
    rw [i64_in ((j : Int) + 1) (by omega)]
    exact sround_normal ⟨j + 1, hjn⟩ (.up rfl (Nat.le_of_ble_eq_true rfl) rfl) (by show n - (j + 1) < n - j; omega)
  · have hjn : n = j := by have := of_decide_eq_false hc; omega
    subst hjn
    clear hc
    refine Sem.exit ?_
    refine sthen_exit ?_
    refine sround_exit ?_
    refine block_exit ?_
    refine sthen_normal ?_
    refine Sem.seq ?_
    refine inInit hn8 hn8 rfl (Sem.of_evC hm T_ok hΓ rfl ?_)
    refine evC_wk (s' := ⟨[(0, 0, Cont.cell (AV.int IntKind.i64 (↑n : Int))), (0, 1, Cont.cell (AV.rs 6 m false fun j => actV (acts j))), (0, 5, Cont.cell (AV.vs 37)), (0, 7, Cont.cell (AV.vs 38)), (0, 8, Cont.cell (AV.int IntKind.i64 (↑n : Int))), (0, 35, Cont.cell (AV.bool (decide ((↑n : Int) < (↑n : Int))))), (37, 0, Cont.vec 1 28 n ptF), (38, 0, .vec 1 40 n vsF)], 39, 229⟩) _ (wk_go [37, 38] rfl (by decide) rfl rfl ⟨⟨_, rfl, rfl⟩, ⟨_, rfl, rfl⟩, ⟨_, rfl, rfl⟩, ⟨_, rfl, rfl⟩, ⟨_, rfl, rfl⟩, ⟨_, rfl, rfl⟩, ⟨_, rfl, Go.Eng.S25.cwV_pt (by assumption) (by decide)⟩, ⟨_, rfl, ?_⟩, trivial⟩) ?_
    · refine ⟨rfl, rfl, rfl, fun i hi => ?_⟩
      show initF n i = AV.vs (pi 37 _ _ (28 + i))
      rw [pi_lt (by omega)]
      unfold initF
      rw [nblt_yes hi]
      rfl
    refine evC_goL0 (dec := []) (ks := [(0, 0), (0, 1), (0, 5), (0, 7), (0, 9), (37, 0), (38, 0)]) (s' := ⟨[(0, 0, Cont.cell (AV.int IntKind.i64 (↑n : Int))), (0, 1, Cont.cell (AV.rs 6 m false fun j => actV (acts j))), (0, 5, Cont.cell (AV.vs 37)), (0, 7, Cont.cell (AV.vs 38)), (0, 9, Cont.cell AV.nils), (37, 0, Cont.vec 1 28 n ptF), (38, 0, Cont.vec 1 40 n vsF)], 71, 229⟩) (by kernel_rfl) (by kernel_rfl) ?_
    refine sframe_at ?_
    refine sframe_at ?_
    refine sthen_normal ?_
    refine Sem.seq ?_
    refine inHome hn8 rfl (Sem.of_evC hm T_ok hΓ rfl ?_)
    refine evC_wk _ (.nil 0 9 1 30 (fun _ => .nils) (Nat.le_of_ble_eq_true rfl) rfl) ?_
    refine evC_goL (dec := []) (ks := [(0, 0), (0, 1), (0, 5), (0, 7), (0, 9), (0, 10), (37, 0), (38, 0), (71, 0), (104, 0)]) (ps := [(0 : Int) ≤ (↑n : Int), (↑n : Int) = (↑n : Int), (↑(8 : Nat) : Int) * (↑n : Int) ≤ (281474976710656 : Int), (↑n : Int) ≤ (9223372036854775807 : Int)]) (s' := ⟨[(0, 0, Cont.cell (AV.int IntKind.i64 (↑n : Int))), (0, 1, Cont.cell (AV.rs 6 m false fun j => actV (acts j))), (0, 5, Cont.cell (AV.vs 37)), (0, 7, Cont.cell (AV.vs 38)), (0, 9, Cont.cell (AV.vs 71)), (0, 10, Cont.cell (AV.vs 104)), (37, 0, Cont.vec 1 28 n ptF), (38, 0, Cont.vec 1 40 n vsF), (71, 0, Cont.vec 1 30 0 fun x => AV.nils), (104, 0, Cont.vec 1 3 n fun x => AV.int IntKind.i64 0)], 168, 229⟩) (by kernel_rfl) (by kernel_rfl) ?_ ?_
    · exact ⟨by omega, rfl, by show (8 : Int) * (n : Nat) ≤ _; omega, by show (n : Int) ≤ 9223372036854775807; omega⟩
    refine sframe_at ?_
    refine sframe_at ?_
    refine sthen_normal ?_
    refine Sem.seq ?_
    refine Sem.seq ?_
    refine inHome hn8 rfl (Sem.of_evC hm T_ok hΓ rfl ?_)
    refine evC_wk (s' := ⟨[(0, 0, Cont.cell (AV.int IntKind.i64 (↑n : Int))), (0, 1, Cont.cell (AV.rs 6 m false fun j => actV (acts j))), (0, 5, Cont.cell (AV.vs 37)), (0, 7, Cont.cell (AV.vs 38)), (0, 9, Cont.cell (AV.vs 39)), (0, 10, Cont.cell (AV.vs 40)), (37, 0, Cont.vec 1 28 n ptF), (38, 0, Cont.vec 1 40 n vsF), (39, 0, .vec 1 30 ([] : List (List Int)).length (nB [])), (40, 0, .vec 1 3 n (tsF fun _ => 0))], 41, 229⟩) _ (wk_go [37, 38, 71, 104] rfl (by decide) rfl rfl ⟨⟨_, rfl, rfl⟩, ⟨_, rfl, rfl⟩, ⟨_, rfl, rfl⟩, ⟨_, rfl, rfl⟩, ⟨_, rfl, rfl⟩, ⟨_, rfl, rfl⟩, ⟨_, rfl, Go.Eng.S25.cwV_pt (by assumption) (by decide)⟩, ⟨_, rfl, Go.Eng.S25.cwV_vs (by assumption) (by decide)⟩, ⟨_, rfl, ⟨rfl, rfl, rfl, fun _ hi => absurd hi (Nat.not_lt_zero _)⟩⟩, ⟨_, rfl, ⟨rfl, rfl, rfl, fun _ _ => rfl⟩⟩, trivial⟩) ?_
    refine evC_goL0 (dec := []) (ks := [(0, 0), (0, 1), (0, 5), (0, 7), (0, 9), (0, 10), (0, 11), (37, 0), (38, 0), (39, 0), (40, 0)]) (s' := ⟨[(0, 0, Cont.cell (AV.int IntKind.i64 (↑n : Int))), (0, 1, Cont.cell (AV.rs 6 m false fun j => actV (acts j))), (0, 5, Cont.cell (AV.vs 37)), (0, 7, Cont.cell (AV.vs 38)), (0, 9, Cont.cell (AV.vs 39)), (0, 10, Cont.cell (AV.vs 40)), (0, 11, Cont.cell (AV.int IntKind.i64 0)), (37, 0, Cont.vec 1 28 n ptF), (38, 0, Cont.vec 1 40 n vsF), (39, 0, Cont.vec 1 30 0 (nB [])), (40, 0, Cont.vec 1 3 n (tsF fun x => 0))], 73, 229⟩) (by kernel_rfl) (by kernel_rfl) ?_
    refine sframe_at ?_
    refine sframe_at ?_
    refine sthen_normal ?_
    refine Sem.block ?_
    refine Sem.loop (ι := { x : Nat × (Nat → Peer) × Iss × (Nat → Int) × List (List Int) // x.1 ≤ 150 ∧ AGI n x.1 x.2.1 x.2.2.1 x.2.2.2.1 x.2.2.2.2 }) (fun x => (St.app ⟨[(0, 0, .cell (.int .i64 (n : Nat))), (0, 1, .cell (.rs 6 m false fun j => actV (acts j))), (0, 5, .cell (.vs 37)), (0, 7, .cell (.vs 38)), (0, 9, .cell (.vs 39)), (0, 10, .cell (.vs 40)), (0, 11, .cell (.int .i64 (x.1.1 : Nat))), (37, 0, .vec 1 28 n ptF), (38, 0, .vec 1 40 n vsF), (39, 0, .vec 1 30 x.1.2.2.2.2.length (nB x.1.2.2.2.2)), (40, 0, .vec 1 3 n (tsF x.1.2.2.2.1))], 9000, 229⟩ (famI x.1.2.2.1 n)).app (famP x.1.2.1 n)) (fun x => 150 - x.1.1) ⟨(0, newF n, fun _ => [[], []], fun _ => 0, []), Nat.zero_le _, ag_new ⟨hn2, hn8⟩ fun p hp => rfl, fun M hM => absurd hM List.not_mem_nil, Nat.le_refl _, fun p hp => Int.le_refl _⟩ (.up rfl (Nat.le_of_ble_eq_true rfl) rfl) ?_
    rintro ⟨⟨i, Ps, Is, Ts, Ms⟩, hi, A⟩
    have hi : i ≤ 150 := hi
    have A : AGI n i Ps Is Ts Ms := A
    refine Sem.seq ?_
    refine Sem.seq ?_
    refine inHome hn8 rfl (Sem.of_evC hm T_ok hΓ rfl ?_)
    refine evC_goL0 (dec := []) (ks := [(0, 0), (0, 1), (0, 5), (0, 7), (0, 9), (0, 10), (0, 11), (0, 51), (37, 0), (38, 0), (39, 0), (40, 0)]) (s' := ⟨[(0, 0, Cont.cell (AV.int IntKind.i64 (↑n : Int))), (0, 1, Cont.cell (AV.rs 6 m false fun j => actV (acts j))), (0, 5, Cont.cell (AV.vs 37)), (0, 7, Cont.cell (AV.vs 38)), (0, 9, Cont.cell (AV.vs 39)), (0, 10, Cont.cell (AV.vs 40)), (0, 11, Cont.cell (AV.int IntKind.i64 (↑i : Int))), (0, 51, Cont.cell (AV.bool (bif decide ((↑i : Int) < (↑m : Int)) then decide ((↑i : Int) < 150) else false))), (37, 0, Cont.vec 1 28 n ptF), (38, 0, Cont.vec 1 40 n vsF), (39, 0, Cont.vec 1 30 (List.length Ms) (nB Ms)), (40, 0, Cont.vec 1 3 n (tsF Ts))], 9256, 229⟩) (by kernel_rfl) (by kernel_rfl) ?_
    refine sframe_at ?_
    refine sframe_at ?_
    refine sthen_normal ?_
    refine sem_if (q := bif decide ((↑i : Int) < (↑m : Int)) then decide ((↑i : Int) < 150) else false) (by kernel_rfl) (fun hc => ?_) (fun hc => ?_)
    · have hlt : i < m ∧ i < 150 := by
        rw [cond_and, Bool.and_eq_true, decide_eq_true_eq, decide_eq_true_eq] at hc
        omega
      clear hc
      refine Sem.skip (sthen_normal (Sem.seq ?_))
      refine sem_cutS (ι := { x : (Nat → Peer) × Iss × (Nat → Int) × List (List Int) // AGI n (i + 1) x.1 x.2.1 x.2.2.1 x.2.2.2 }) (fun x => (St.app ⟨[(0, 0, .cell (.int .i64 (n : Nat))), (0, 1, .cell (.rs 6 m false fun j => actV (acts j))), (0, 5, .cell (.vs 37)), (0, 7, .cell (.vs 38)), (0, 9, .cell (.vs 39)), (0, 10, .cell (.vs 40)), (0, 11, .cell (.int .i64 (i : Nat))), (37, 0, .vec 1 28 n ptF), (38, 0, .vec 1 40 n vsF), (39, 0, .vec 1 30 x.1.2.2.2.length (nB x.1.2.2.2)), (40, 0, .vec 1 3 n (tsF x.1.2.2.1))], 9000, 229⟩ (famI x.1.2.1 n)).app (famP x.1.1 n)) ?_ ?_
      · obtain ⟨a, ha⟩ : ∃ a, a = acts i := ⟨_, rfl⟩
        obtain ⟨hB, hBl⟩ := hA i hlt.1
        rw [← ha] at hB hBl
        refine Sem.block ?_
        refine Sem.seq ?_
        refine inHome hn8 rfl (Sem.of_evC hm T_ok hΓ rfl ?_)
        refine evC_goL (dec := []) (ks := [(0, 0), (0, 1), (0, 5), (0, 7), (0, 9), (0, 10), (0, 11), (0, 12), (37, 0), (38, 0), (39, 0), (40, 0), (9384, 0), (9384, 1), (9384, 2), (9384, 3), (9384, 4), (9384, 5), (9384, 6)]) (ps := [(0 : Int) ≤ (↑i : Int), (↑i : Int) < (↑m : Int), (6 : Nat) = (6 : Nat)]) (s' := ⟨[(0, 0, Cont.cell (AV.int IntKind.i64 (↑n : Int))), (0, 1, Cont.cell (AV.rs 6 m false fun j => actV (acts j))), (0, 5, Cont.cell (AV.vs 37)), (0, 7, Cont.cell (AV.vs 38)), (0, 9, Cont.cell (AV.vs 39)), (0, 10, Cont.cell (AV.vs 40)), (0, 11, Cont.cell (AV.int IntKind.i64 (↑i : Int))), (0, 12, Cont.cell (AV.ptr 9384 0)), (37, 0, Cont.vec 1 28 n ptF), (38, 0, Cont.vec 1 40 n vsF), (39, 0, Cont.vec 1 30 (List.length Ms) (nB Ms)), (40, 0, Cont.vec 1 3 n (tsF Ts)), (9384, 0, Cont.cell (AV.int IntKind.i64 (Act.Do (acts i)))), (9384, 1, Cont.cell (AV.int IntKind.i64 (Act.P (acts i)))), (9384, 2, Cont.cell (AV.int IntKind.i64 (Act.Q (acts i)))), (9384, 3, Cont.cell (AV.int IntKind.i64 (Act.K (acts i)))), (9384, 4, Cont.cell (AV.int IntKind.u64 (Act.W (acts i)))), (9384, 5, Cont.cell (AV.rs 1 (List.length (Act.B (acts i))) false (nU (Act.B (acts i))))), (9384, 6, Cont.top)], 9448, 229⟩) (by kernel_rfl) (by kernel_rfl) ?_ ?_
        · exact ⟨by omega, by omega, rfl⟩
        rw [← ha]
        refine sframe_at ?_
        refine sframe_at ?_
        refine sthen_normal ?_
        refine Sem.seq ?_
        refine Sem.seq ?_
        refine inHome hn8 rfl (Sem.of_evC hm T_ok hΓ rfl ?_)
        refine evC_wk (s' := ⟨[(0, 0, Cont.cell (AV.int IntKind.i64 (↑n : Int))), (0, 1, Cont.cell (AV.rs 6 m false fun j => actV (acts j))), (0, 5, Cont.cell (AV.vs 37)), (0, 7, Cont.cell (AV.vs 38)), (0, 9, Cont.cell (AV.vs 39)), (0, 10, Cont.cell (AV.vs 40)), (0, 11, Cont.cell (AV.int IntKind.i64 (↑i : Int))), (0, 12, Cont.cell (AV.ptr 41 0)), (37, 0, Cont.vec 1 28 n ptF), (38, 0, Cont.vec 1 40 n vsF), (39, 0, Cont.vec 1 30 (List.length Ms) (nB Ms)), (40, 0, Cont.vec 1 3 n (tsF Ts)), (41, 0, Cont.cell (AV.int IntKind.i64 (Act.Do a))), (41, 1, Cont.cell (AV.int IntKind.i64 (Act.P a))), (41, 2, Cont.cell (AV.int IntKind.i64 (Act.Q a))), (41, 3, Cont.cell (AV.int IntKind.i64 (Act.K a))), (41, 4, Cont.cell (AV.int IntKind.u64 (Act.W a))), (41, 5, Cont.cell (AV.rs 1 (List.length (Act.B a)) false (nU (Act.B a)))), (41, 6, Cont.top)], 42, 229⟩) _ (wk_go [37, 38, 39, 40, 9384] rfl (by decide) rfl rfl ⟨⟨_, rfl, rfl⟩, ⟨_, rfl, rfl⟩, ⟨_, rfl, rfl⟩, ⟨_, rfl, rfl⟩, ⟨_, rfl, rfl⟩, ⟨_, rfl, rfl⟩, ⟨_, rfl, rfl⟩, ⟨_, rfl, rfl⟩, ⟨_, rfl, Go.Eng.S25.cwV_pt (by assumption) (by decide)⟩, ⟨_, rfl, Go.Eng.S25.cwV_vs (by assumption) (by decide)⟩, ⟨_, rfl, rfl, rfl, rfl, fun _ _ => rfl⟩, ⟨_, rfl, rfl, rfl, rfl, fun _ _ => rfl⟩, ⟨_, rfl, rfl⟩, ⟨_, rfl, rfl⟩, ⟨_, rfl, rfl⟩, ⟨_, rfl, rfl⟩, ⟨_, rfl, rfl⟩, ⟨_, rfl, rfl⟩, ⟨_, rfl, trivial⟩, trivial⟩) ?_
        refine evC_goL0 (dec := []) (ks := [(0, 0), (0, 1), (0, 5), (0, 7), (0, 9), (0, 10), (0, 11), (0, 12), (0, 66), (37, 0), (38, 0), (39, 0), (40, 0), (41, 0), (41, 1), (41, 2), (41, 3), (41, 4), (41, 5), (41, 6)]) (s' := ⟨[(0, 0, Cont.cell (AV.int IntKind.i64 (↑n : Int))), (0, 1, Cont.cell (AV.rs 6 m false fun j => actV (acts j))), (0, 5, Cont.cell (AV.vs 37)), (0, 7, Cont.cell (AV.vs 38)), (0, 9, Cont.cell (AV.vs 39)), (0, 10, Cont.cell (AV.vs 40)), (0, 11, Cont.cell (AV.int IntKind.i64 (↑i : Int))), (0, 12, Cont.cell (AV.ptr 41 0)), (0, 66, Cont.cell (AV.bool (bif decide (Act.P a < 0) then true else decide (Act.P a ≥ (↑n : Int))))), (37, 0, Cont.vec 1 28 n ptF), (38, 0, Cont.vec 1 40 n vsF), (39, 0, Cont.vec 1 30 (List.length Ms) (nB Ms)), (40, 0, Cont.vec 1 3 n (tsF Ts)), (41, 0, Cont.cell (AV.int IntKind.i64 (Act.Do a))), (41, 1, Cont.cell (AV.int IntKind.i64 (Act.P a))), (41, 2, Cont.cell (AV.int IntKind.i64 (Act.Q a))), (41, 3, Cont.cell (AV.int IntKind.i64 (Act.K a))), (41, 4, Cont.cell (AV.int IntKind.u64 (Act.W a))), (41, 5, Cont.cell (AV.rs 1 (List.length (Act.B a)) false (nU (Act.B a)))), (41, 6, Cont.top)], 330, 229⟩) (by kernel_rfl) (by kernel_rfl) ?_
        refine sframe_at (sframe_at (sthen_normal ?_))
        refine sem_cutS (ι := { p : Nat // p < n }) (fun x => (St.app ⟨[(0, 0, .cell (.int .i64 (n : Nat))), (0, 1, .cell (.rs 6 m false fun j => actV (acts j))), (0, 5, .cell (.vs 37)), (0, 7, .cell (.vs 38)), (0, 9, .cell (.vs 39)), (0, 10, .cell (.vs 40)), (0, 11, .cell (.int .i64 (i : Nat))), (0, 12, .cell (.ptr 41 0)), (37, 0, .vec 1 28 n ptF), (38, 0, .vec 1 40 n vsF), (39, 0, .vec 1 30 Ms.length (nB Ms)), (40, 0, .vec 1 3 n (tsF Ts)), (41, 0, .cell (.int .i64 a.Do)), (41, 1, .cell (.int .i64 (x.1 : Nat))), (41, 2, .cell (.int .i64 a.Q)), (41, 3, .cell (.int .i64 a.K)), (41, 4, .cell (.int .u64 a.W)), (41, 5, .cell (.rs 1 a.B.length false (nU a.B)))], 3000, 229⟩ (famI Is n)).app (famP Ps n)) ?_ ?_
        · refine sem_if (q := bif decide (Act.P a < 0) then true else decide (Act.P a ≥ (↑n : Int))) (by kernel_rfl) (fun hc => ?_) (fun hc => ?_)
          · refine inHome hn8 rfl (Sem.of_evC hm T_ok hΓ rfl ?_)
            refine evC_goL0 (dec := []) (ks := [(0, 0), (0, 1), (0, 5), (0, 7), (0, 9), (0, 10), (0, 11), (0, 12), (37, 0), (38, 0), (39, 0), (40, 0), (41, 0), (41, 1), (41, 2), (41, 3), (41, 4), (41, 5), (41, 6)]) (s' := ⟨[(0, 0, Cont.cell (AV.int IntKind.i64 (↑n : Int))), (0, 1, Cont.cell (AV.rs 6 m false fun j => actV (acts j))), (0, 5, Cont.cell (AV.vs 37)), (0, 7, Cont.cell (AV.vs 38)), (0, 9, Cont.cell (AV.vs 39)), (0, 10, Cont.cell (AV.vs 40)), (0, 11, Cont.cell (AV.int IntKind.i64 (↑i : Int))), (0, 12, Cont.cell (AV.ptr 41 0)), (37, 0, Cont.vec 1 28 n ptF), (38, 0, Cont.vec 1 40 n vsF), (39, 0, Cont.vec 1 30 (List.length Ms) (nB Ms)), (40, 0, Cont.vec 1 3 n (tsF Ts)), (41, 0, Cont.cell (AV.int IntKind.i64 (Act.Do a))), (41, 1, Cont.cell (AV.int IntKind.i64 0)), (41, 2, Cont.cell (AV.int IntKind.i64 (Act.Q a))), (41, 3, Cont.cell (AV.int IntKind.i64 (Act.K a))), (41, 4, Cont.cell (AV.int IntKind.u64 (Act.W a))), (41, 5, Cont.cell (AV.rs 1 (List.length (Act.B a)) false (nU (Act.B a)))), (41, 6, Cont.top)], 394, 229⟩) (by kernel_rfl) (by kernel_rfl) ?_
            refine sframe_at (sframe_at ?_)
            exact scut_normal ⟨0, by omega⟩ (home_keep [(0, 0), (0, 1), (0, 5), (0, 7), (0, 9), (0, 10), (0, 11), (0, 12), (37, 0), (38, 0), (39, 0), (40, 0), (41, 0), (41, 1), (41, 2), (41, 3), (41, 4), (41, 5)] hn8 rfl rfl (Nat.le_of_ble_eq_true rfl))
          · rw [cond_or, Bool.or_eq_false_iff, decide_eq_false_iff_not, decide_eq_false_iff_not] at hc
            obtain ⟨p, hp⟩ : ∃ p : Nat, a.P = (p : Nat) := ⟨a.P.toNat, by omega⟩
            rw [hp]
            refine Sem.skip ?_
            exact scut_normal ⟨p, by omega⟩ (home_keep [(0, 0), (0, 1), (0, 5), (0, 7), (0, 9), (0, 10), (0, 11), (0, 12), (37, 0), (38, 0), (39, 0), (40, 0), (41, 0), (41, 1), (41, 2), (41, 3), (41, 4), (41, 5)] hn8 rfl rfl (Nat.le_of_ble_eq_true rfl))
        rintro ⟨p, hp⟩
        refine Sem.seq ?_
        refine inHome hn8 rfl (Sem.of_evC hm T_ok hΓ rfl ?_)
        refine evC_wk (s' := ⟨[(0, 0, Cont.cell (AV.int IntKind.i64 (↑n : Int))), (0, 1, Cont.cell (AV.rs 6 m false fun j => actV (acts j))), (0, 5, Cont.cell (AV.vs 37)), (0, 7, Cont.cell (AV.vs 38)), (0, 9, Cont.cell (AV.vs 39)), (0, 10, Cont.cell (AV.vs 40)), (0, 11, Cont.cell (AV.int IntKind.i64 (↑i : Int))), (0, 12, Cont.cell (AV.ptr 41 0)), (37, 0, Cont.vec 1 28 n ptF), (38, 0, Cont.vec 1 40 n vsF), (39, 0, Cont.vec 1 30 (List.length Ms) (nB Ms)), (40, 0, Cont.vec 1 3 n (tsF Ts)), (41, 0, Cont.cell (AV.int IntKind.i64 (Act.Do a))), (41, 1, Cont.cell (AV.int IntKind.i64 (↑p : Int))), (41, 2, Cont.cell (AV.int IntKind.i64 (Act.Q a))), (41, 3, Cont.cell (AV.int IntKind.i64 (Act.K a))), (41, 4, Cont.cell (AV.int IntKind.u64 (Act.W a))), (41, 5, Cont.cell (AV.rs 1 (List.length (Act.B a)) false (nU (Act.B a))))], 42, 229⟩) _ (wk_go [37, 38, 39, 40, 41] rfl (by decide) rfl rfl ⟨⟨_, rfl, rfl⟩, ⟨_, rfl, rfl⟩, ⟨_, rfl, rfl⟩, ⟨_, rfl, rfl⟩, ⟨_, rfl, rfl⟩, ⟨_, rfl, rfl⟩, ⟨_, rfl, rfl⟩, ⟨_, rfl, rfl⟩, ⟨_, rfl, Go.Eng.S25.cwV_pt (by assumption) (by decide)⟩, ⟨_, rfl, Go.Eng.S25.cwV_vs (by assumption) (by decide)⟩, ⟨_, rfl, rfl, rfl, rfl, fun _ _ => rfl⟩, ⟨_, rfl, rfl, rfl, rfl, fun _ _ => rfl⟩, ⟨_, rfl, rfl⟩, ⟨_, rfl, rfl⟩, ⟨_, rfl, rfl⟩, ⟨_, rfl, rfl⟩, ⟨_, rfl, rfl⟩, ⟨_, rfl, rfl⟩, trivial⟩) ?_
        refine evC_goL (dec := []) (ks := [(0, 0), (0, 1), (0, 5), (0, 7), (0, 9), (0, 10), (0, 11), (0, 12), (0, 13), (37, 0), (38, 0), (39, 0), (40, 0), (41, 0), (41, 1), (41, 2), (41, 3), (41, 4), (41, 5)]) (ps := [(0 : Int) ≤ (↑p : Int), (↑p : Int) < (↑n : Int), (1 : Nat) = (1 : Nat), (0 : Int) ≤ (↑p : Int), (↑p : Int) < (↑n : Int), (1 : Nat) = (1 : Nat)]) (s' := ⟨[(0, 0, Cont.cell (AV.int IntKind.i64 (↑n : Int))), (0, 1, Cont.cell (AV.rs 6 m false fun j => actV (acts j))), (0, 5, Cont.cell (AV.vs 37)), (0, 7, Cont.cell (AV.vs 38)), (0, 9, Cont.cell (AV.vs 39)), (0, 10, Cont.cell (AV.vs 40)), (0, 11, Cont.cell (AV.int IntKind.i64 (↑i : Int))), (0, 12, Cont.cell (AV.ptr 41 0)), (0, 13, Cont.cell (AV.ptr (1 + 3 * p) 0)), (37, 0, Cont.vec 1 28 n ptF), (38, 0, Cont.vec 1 40 n vsF), (39, 0, Cont.vec 1 30 (List.length Ms) (nB Ms)), (40, 0, Cont.vec 1 3 n (tsF Ts)), (41, 0, Cont.cell (AV.int IntKind.i64 (Act.Do a))), (41, 1, Cont.cell (AV.int IntKind.i64 (↑p : Int))), (41, 2, Cont.cell (AV.int IntKind.i64 (Act.Q a))), (41, 3, Cont.cell (AV.int IntKind.i64 (Act.K a))), (41, 4, Cont.cell (AV.int IntKind.u64 (Act.W a))), (41, 5, Cont.cell (AV.rs 1 (List.length (Act.B a)) false (nU (Act.B a))))], 234, 229⟩) (by kernel_rfl) (by kernel_rfl) ?_ ?_
        · exact ⟨by omega, by omega, rfl, by omega, by omega, rfl⟩
        refine sframe_at (sframe_at (sthen_normal ?_))
        refine Sem.seq ?_
        refine inHome hn8 rfl (Sem.of_evC hm T_ok hΓ rfl ?_)
        refine evC_goL0 (dec := []) (ks := [(0, 0), (0, 1), (0, 5), (0, 7), (0, 9), (0, 10), (0, 11), (0, 12), (0, 13), (0, 74), (37, 0), (38, 0), (39, 0), (40, 0), (41, 0), (41, 1), (41, 2), (41, 3), (41, 4), (41, 5)]) (s' := ⟨[(0, 0, Cont.cell (AV.int IntKind.i64 (↑n : Int))), (0, 1, Cont.cell (AV.rs 6 m false fun j => actV (acts j))), (0, 5, Cont.cell (AV.vs 37)), (0, 7, Cont.cell (AV.vs 38)), (0, 9, Cont.cell (AV.vs 39)), (0, 10, Cont.cell (AV.vs 40)), (0, 11, Cont.cell (AV.int IntKind.i64 (↑i : Int))), (0, 12, Cont.cell (AV.ptr 41 0)), (0, 13, Cont.cell (AV.ptr (1 + 3 * p) 0)), (0, 74, Cont.cell (AV.int IntKind.i64 (Act.Do a))), (37, 0, Cont.vec 1 28 n ptF), (38, 0, Cont.vec 1 40 n vsF), (39, 0, Cont.vec 1 30 (List.length Ms) (nB Ms)), (40, 0, Cont.vec 1 3 n (tsF Ts)), (41, 0, Cont.cell (AV.int IntKind.i64 (Act.Do a))), (41, 1, Cont.cell (AV.int IntKind.i64 (↑p : Int))), (41, 2, Cont.cell (AV.int IntKind.i64 (Act.Q a))), (41, 3, Cont.cell (AV.int IntKind.i64 (Act.K a))), (41, 4, Cont.cell (AV.int IntKind.u64 (Act.W a))), (41, 5, Cont.cell (AV.rs 1 (List.length (Act.B a)) false (nU (Act.B a))))], 298, 229⟩) (by kernel_rfl) (by kernel_rfl) ?_
        refine sframe_at ?_
        refine sframe_at ?_
        refine sthen_normal ?_
        refine Sem.block ?_
        refine Sem.seq ?_
        refine inHome hn8 rfl (Sem.of_evC hm T_ok hΓ rfl ?_)
        refine evC_goL0 (dec := []) (ks := [(0, 0), (0, 1), (0, 5), (0, 7), (0, 9), (0, 10), (0, 11), (0, 12), (0, 13), (0, 74), (0, 125), (37, 0), (38, 0), (39, 0), (40, 0), (41, 0), (41, 1), (41, 2), (41, 3), (41, 4), (41, 5)]) (s' := ⟨[(0, 0, Cont.cell (AV.int IntKind.i64 (↑n : Int))), (0, 1, Cont.cell (AV.rs 6 m false fun j => actV (acts j))), (0, 5, Cont.cell (AV.vs 37)), (0, 7, Cont.cell (AV.vs 38)), (0, 9, Cont.cell (AV.vs 39)), (0, 10, Cont.cell (AV.vs 40)), (0, 11, Cont.cell (AV.int IntKind.i64 (↑i : Int))), (0, 12, Cont.cell (AV.ptr 41 0)), (0, 13, Cont.cell (AV.ptr (1 + 3 * p) 0)), (0, 74, Cont.cell (AV.int IntKind.i64 (Act.Do a))), (0, 125, Cont.cell (AV.bool (Act.Do a == 0))), (37, 0, Cont.vec 1 28 n ptF), (38, 0, Cont.vec 1 40 n vsF), (39, 0, Cont.vec 1 30 (List.length Ms) (nB Ms)), (40, 0, Cont.vec 1 3 n (tsF Ts)), (41, 0, Cont.cell (AV.int IntKind.i64 (Act.Do a))), (41, 1, Cont.cell (AV.int IntKind.i64 (↑p : Int))), (41, 2, Cont.cell (AV.int IntKind.i64 (Act.Q a))), (41, 3, Cont.cell (AV.int IntKind.i64 (Act.K a))), (41, 4, Cont.cell (AV.int IntKind.u64 (Act.W a))), (41, 5, Cont.cell (AV.rs 1 (List.length (Act.B a)) false (nU (Act.B a))))], 362, 229⟩) (by kernel_rfl) (by kernel_rfl) ?_
        refine sframe_at ?_
        refine sframe_at ?_
        refine sthen_normal ?_
        refine sem_if (q := Act.Do a == 0) (by kernel_rfl) (fun hc => ?_) (fun hc => ?_)
        · clear hc
          refine Sem.wk (home_keep [(0, 0), (0, 1), (0, 5), (0, 7), (0, 9), (0, 10), (0, 11), (0, 12), (0, 13), (37, 0), (38, 0), (39, 0), (40, 0), (41, 0), (41, 1), (41, 2), (41, 3), (41, 4), (41, 5)] hn8 rfl rfl (nx' := 4000) (Nat.le_of_ble_eq_true rfl)) ?_
          refine ag_b0 (a := a) ⟨hn2, hn8⟩ hp hi hB hBl A fun s' Ps' Is' A' h => ?_
          exact scut_normal (Q := fun _ _ => True) ⟨(Ps', Is', Ts, Ms), A'.up⟩ h
        clear hc
        refine Sem.seq ?_
        refine inHome hn8 rfl (Sem.of_evC hm T_ok hΓ rfl ?_)
        refine evC_goL0 (dec := []) (ks := [(0, 0), (0, 1), (0, 5), (0, 7), (0, 9), (0, 10), (0, 11), (0, 12), (0, 13), (0, 74), (0, 148), (37, 0), (38, 0), (39, 0), (40, 0), (41, 0), (41, 1), (41, 2), (41, 3), (41, 4), (41, 5)]) (s' := ⟨[(0, 0, Cont.cell (AV.int IntKind.i64 (↑n : Int))), (0, 1, Cont.cell (AV.rs 6 m false fun j => actV (acts j))), (0, 5, Cont.cell (AV.vs 37)), (0, 7, Cont.cell (AV.vs 38)), (0, 9, Cont.cell (AV.vs 39)), (0, 10, Cont.cell (AV.vs 40)), (0, 11, Cont.cell (AV.int IntKind.i64 (↑i : Int))), (0, 12, Cont.cell (AV.ptr 41 0)), (0, 13, Cont.cell (AV.ptr (1 + 3 * p) 0)), (0, 74, Cont.cell (AV.int IntKind.i64 (Act.Do a))), (0, 148, Cont.cell (AV.bool (Act.Do a == 1))), (37, 0, Cont.vec 1 28 n ptF), (38, 0, Cont.vec 1 40 n vsF), (39, 0, Cont.vec 1 30 (List.length Ms) (nB Ms)), (40, 0, Cont.vec 1 3 n (tsF Ts)), (41, 0, Cont.cell (AV.int IntKind.i64 (Act.Do a))), (41, 1, Cont.cell (AV.int IntKind.i64 (↑p : Int))), (41, 2, Cont.cell (AV.int IntKind.i64 (Act.Q a))), (41, 3, Cont.cell (AV.int IntKind.i64 (Act.K a))), (41, 4, Cont.cell (AV.int IntKind.u64 (Act.W a))), (41, 5, Cont.cell (AV.rs 1 (List.length (Act.B a)) false (nU (Act.B a))))], 426, 229⟩) (by kernel_rfl) (by kernel_rfl) ?_
        refine sframe_at ?_
        refine sframe_at ?_
        refine sthen_normal ?_
        refine sem_if (q := Act.Do a == 1) (by kernel_rfl) (fun hc => ?_) (fun hc => ?_)
        · clear hc
          refine Sem.wk (home_keep [(0, 0), (0, 1), (0, 5), (0, 7), (0, 9), (0, 10), (0, 11), (0, 12), (0, 13), (37, 0), (38, 0), (39, 0), (40, 0), (41, 0), (41, 1), (41, 2), (41, 3), (41, 4), (41, 5)] hn8 rfl rfl (nx' := 4000) (Nat.le_of_ble_eq_true rfl)) ?_
          refine ag_b1 (a := a) ⟨hn2, hn8⟩ hp hi A fun s' Ms' A' h => ?_
          exact scut_normal (Q := fun _ _ => True) ⟨(Ps, Is, Ts, Ms'), A'⟩ h
        clear hc
        refine Sem.seq ?_
        refine inHome hn8 rfl (Sem.of_evC hm T_ok hΓ rfl ?_)
        refine evC_goL0 (dec := []) (ks := [(0, 0), (0, 1), (0, 5), (0, 7), (0, 9), (0, 10), (0, 11), (0, 12), (0, 13), (0, 163), (37, 0), (38, 0), (39, 0), (40, 0), (41, 0), (41, 1), (41, 2), (41, 3), (41, 4), (41, 5)]) (s' := ⟨[(0, 0, Cont.cell (AV.int IntKind.i64 (↑n : Int))), (0, 1, Cont.cell (AV.rs 6 m false fun j => actV (acts j))), (0, 5, Cont.cell (AV.vs 37)), (0, 7, Cont.cell (AV.vs 38)), (0, 9, Cont.cell (AV.vs 39)), (0, 10, Cont.cell (AV.vs 40)), (0, 11, Cont.cell (AV.int IntKind.i64 (↑i : Int))), (0, 12, Cont.cell (AV.ptr 41 0)), (0, 13, Cont.cell (AV.ptr (1 + 3 * p) 0)), (0, 163, Cont.cell (AV.bool (Act.Do a == 2))), (37, 0, Cont.vec 1 28 n ptF), (38, 0, Cont.vec 1 40 n vsF), (39, 0, Cont.vec 1 30 (List.length Ms) (nB Ms)), (40, 0, Cont.vec 1 3 n (tsF Ts)), (41, 0, Cont.cell (AV.int IntKind.i64 (Act.Do a))), (41, 1, Cont.cell (AV.int IntKind.i64 (↑p : Int))), (41, 2, Cont.cell (AV.int IntKind.i64 (Act.Q a))), (41, 3, Cont.cell (AV.int IntKind.i64 (Act.K a))), (41, 4, Cont.cell (AV.int IntKind.u64 (Act.W a))), (41, 5, Cont.cell (AV.rs 1 (List.length (Act.B a)) false (nU (Act.B a))))], 490, 229⟩) (by kernel_rfl) (by kernel_rfl) ?_
        refine sframe_at ?_
        refine sframe_at ?_
        refine sthen_normal ?_
        refine sem_if (q := Act.Do a == 2) (by kernel_rfl) (fun hc => ?_) (fun hc => ?_)
        · clear hc
          refine Sem.wk (home_keep [(0, 0), (0, 1), (0, 5), (0, 7), (0, 9), (0, 10), (0, 11), (0, 12), (0, 13), (37, 0), (38, 0), (39, 0), (40, 0), (41, 0), (41, 1), (41, 2), (41, 3), (41, 4), (41, 5)] hn8 rfl rfl (nx' := 4000) (Nat.le_of_ble_eq_true rfl)) ?_
          refine ag_b2 (a := a) ⟨hn2, hn8⟩ hp hi A (fun s' Ps' A' h => ?_) fun s' h => ?_
          · exact scut_normal (Q := fun _ _ => True) ⟨(Ps', Is, Ts, Ms), A'.up⟩ h
          · exact scut_normal (Q := fun _ _ => True) ⟨(Ps, Is, Ts, Ms), A.up⟩ h
        clear hc
        refine Sem.wk (home_keep [(0, 0), (0, 1), (0, 5), (0, 7), (0, 9), (0, 10), (0, 11), (0, 12), (0, 13), (37, 0), (38, 0), (39, 0), (40, 0), (41, 0), (41, 1), (41, 2), (41, 3), (41, 4), (41, 5)] hn8 rfl rfl (nx' := 4000) (Nat.le_of_ble_eq_true rfl)) ?_
        refine ag_b3 (a := a) ⟨hn2, hn8⟩ hp hi A (fun s' Ps' Ts' A' h => ?_) fun s' h => ?_
        · exact scut_normal (Q := fun _ _ => True) ⟨(Ps', Is, Ts', Ms), A'⟩ h
        · exact scut_normal (Q := fun _ _ => True) ⟨(Ps, Is, Ts, Ms), A.up⟩ h
      · rintro ⟨⟨Ps, Is, Ts, Ms⟩, A⟩
        have A : AGI n (i + 1) Ps Is Ts Ms := A
        refine inHome hn8 rfl (Sem.of_evC hm T_ok hΓ rfl ?_)
        refine evC_wk (s' := ⟨[(0, 0, Cont.cell (AV.int IntKind.i64 (↑n : Int))), (0, 1, Cont.cell (AV.rs 6 m false fun j => actV (acts j))), (0, 5, Cont.cell (AV.vs 37)), (0, 7, Cont.cell (AV.vs 38)), (0, 9, Cont.cell (AV.vs 39)), (0, 10, Cont.cell (AV.vs 40)), (0, 11, Cont.cell (AV.int IntKind.i64 (↑i : Int))), (37, 0, Cont.vec 1 28 n ptF), (38, 0, Cont.vec 1 40 n vsF), (39, 0, Cont.vec 1 30 (List.length Ms) (nB Ms)), (40, 0, Cont.vec 1 3 n (tsF Ts))], 41, 229⟩) _ (wk_go [37, 38, 39, 40] rfl (by decide) rfl rfl ⟨⟨_, rfl, rfl⟩, ⟨_, rfl, rfl⟩, ⟨_, rfl, rfl⟩, ⟨_, rfl, rfl⟩, ⟨_, rfl, rfl⟩, ⟨_, rfl, rfl⟩, ⟨_, rfl, rfl⟩, ⟨_, rfl, Go.Eng.S25.cwV_pt (by assumption) (by decide)⟩, ⟨_, rfl, Go.Eng.S25.cwV_vs (by assumption) (by decide)⟩, ⟨_, rfl, rfl, rfl, rfl, fun _ _ => rfl⟩, ⟨_, rfl, rfl, rfl, rfl, fun _ _ => rfl⟩, trivial⟩) ?_
        refine evC_goL0 (dec := []) (ks := [(0, 0), (0, 1), (0, 5), (0, 7), (0, 9), (0, 10), (0, 11), (37, 0), (38, 0), (39, 0), (40, 0)]) (s' := ⟨[(0, 0, Cont.cell (AV.int IntKind.i64 (↑n : Int))), (0, 1, Cont.cell (AV.rs 6 m false fun j => actV (acts j))), (0, 5, Cont.cell (AV.vs 37)), (0, 7, Cont.cell (AV.vs 38)), (0, 9, Cont.cell (AV.vs 39)), (0, 10, Cont.cell (AV.vs 40)), (0, 11, Cont.cell (AV.int IntKind.i64 (IntKind.i64.wrap ((↑i : Int) + 1)))), (37, 0, Cont.vec 1 28 n ptF), (38, 0, Cont.vec 1 40 n vsF), (39, 0, Cont.vec 1 30 (List.length Ms) (nB Ms)), (40, 0, Cont.vec 1 3 n (tsF Ts))], 137, 229⟩) (by kernel_rfl) (by kernel_rfl) ?_
        refine sframe_at ?_
        refine sframe_at ?_
        rw [i64_in ((i : Int) + 1) (by omega)]
        exact sround_normal ⟨(i + 1, Ps, Is, Ts, Ms), hlt.2, A⟩ (.up rfl (Nat.le_of_ble_eq_true rfl) rfl) (by show 150 - (i + 1) < 150 - i; omega)
    · clear hc
      refine Sem.exit ?_
      refine sthen_exit ?_
      refine sround_exit ?_
      refine block_exit ?_
      refine sthen_normal ?_
      refine Sem.seq ?_
      refine Sem.seq ?_
      refine inHome hn8 rfl (Sem.of_evC hm T_ok hΓ rfl ?_)
      refine evC_wk (s' := ⟨[(0, 0, Cont.cell (AV.int IntKind.i64 (↑n : Int))), (0, 1, Cont.cell (AV.rs 6 m false fun j => actV (acts j))), (0, 5, Cont.cell (AV.vs 37)), (0, 7, Cont.cell (AV.vs 38)), (0, 9, Cont.cell (AV.vs 39)), (0, 10, Cont.cell (AV.vs 40)), (0, 11, Cont.cell (AV.int IntKind.i64 (↑i : Int))), (0, 51, Cont.cell (AV.bool (bif decide ((↑i : Int) < (↑m : Int)) then decide ((↑i : Int) < 150) else false))), (37, 0, Cont.vec 1 28 n ptF), (38, 0, Cont.vec 1 40 n vsF), (39, 0, Cont.vec 1 30 (List.length Ms) (nB Ms)), (40, 0, Cont.vec 1 3 n (tsF Ts))], 41, 229⟩) _ (wk_go [37, 38, 39, 40] rfl (by decide) rfl rfl ⟨⟨_, rfl, rfl⟩, ⟨_, rfl, rfl⟩, ⟨_, rfl, rfl⟩, ⟨_, rfl, rfl⟩, ⟨_, rfl, rfl⟩, ⟨_, rfl, rfl⟩, ⟨_, rfl, rfl⟩, ⟨_, rfl, rfl⟩, ⟨_, rfl, Go.Eng.S25.cwV_pt (by assumption) (by decide)⟩, ⟨_, rfl, Go.Eng.S25.cwV_vs (by assumption) (by decide)⟩, ⟨_, rfl, rfl, rfl, rfl, fun _ _ => rfl⟩, ⟨_, rfl, rfl, rfl, rfl, fun _ _ => rfl⟩, trivial⟩) ?_
      refine evC_goL0 (dec := []) (ks := [(0, 0), (0, 5), (0, 10), (0, 21), (37, 0), (40, 0)]) (s' := ⟨[(0, 0, Cont.cell (AV.int IntKind.i64 (↑n : Int))), (0, 5, Cont.cell (AV.vs 37)), (0, 10, Cont.cell (AV.vs 40)), (0, 21, Cont.cell (AV.int IntKind.i64 0)), (37, 0, Cont.vec 1 28 n ptF), (40, 0, Cont.vec 1 3 n (tsF Ts))], 73, 229⟩) (by kernel_rfl) (by kernel_rfl) ?_
      refine sframe_at ?_
      refine sframe_at ?_
      refine sthen_normal ?_
      refine Sem.block ?_
      refine Sem.loop (ι := { j : Nat // j ≤ n }) (fun x => (St.app ⟨[(0, 0, .cell (.int .i64 (n : Nat))), (0, 5, .cell (.vs 37)), (0, 10, .cell (.vs 40)), (0, 21, .cell (.int .i64 (x.1 : Nat))), (37, 0, .vec 1 28 n ptF), (40, 0, .vec 1 3 n (tsF Ts))], 3000, 229⟩ (famI Is n)).app (famP Ps n)) (fun x => n - x.1) ⟨0, Nat.zero_le _⟩ (.up rfl (Nat.le_of_ble_eq_true rfl) rfl) ?_
      rintro ⟨j, hj⟩
      refine Sem.seq ?_
      refine Sem.seq ?_
      refine inHome hn8 rfl (Sem.of_evC hm T_ok hΓ rfl ?_)
      refine evC_goL0 (dec := []) (ks := [(0, 0), (0, 5), (0, 10), (0, 21), (0, 208), (37, 0), (40, 0)]) (s' := ⟨[(0, 0, Cont.cell (AV.int IntKind.i64 (↑n : Int))), (0, 5, Cont.cell (AV.vs 37)), (0, 10, Cont.cell (AV.vs 40)), (0, 21, Cont.cell (AV.int IntKind.i64 (↑j : Int))), (0, 208, Cont.cell (AV.bool (decide ((↑j : Int) < (↑n : Int))))), (37, 0, Cont.vec 1 28 n ptF), (40, 0, Cont.vec 1 3 n (tsF Ts))], 3096, 229⟩) (by kernel_rfl) (by kernel_rfl) ?_
      refine sframe_at ?_
      refine sframe_at ?_
      refine sthen_normal ?_
      refine sem_if (q := decide ((↑j : Int) < (↑n : Int))) (by kernel_rfl) (fun hc => ?_) (fun hc => ?_)
      · have hji : j < n := by have := of_decide_eq_true hc; omega
        clear hc
        refine Sem.skip (sthen_normal (Sem.seq ?_))
        refine Sem.wk (home_keep [(0, 0), (0, 5), (0, 10), (0, 21), (37, 0), (40, 0)] hn8 rfl rfl (nx' := 4000) (Nat.le_of_ble_eq_true rfl)) ?_
        refine foc2 (p := j) (A := [(0, 0, .cell (.int .i64 (n : Nat))), (0, 5, .cell (.vs 37)), (0, 10, .cell (.vs 40)), (0, 21, .cell (.int .i64 (j : Nat)))]) (A' := [(0, 0, .cell (.int .i64 (n : Nat))), (0, 5, .cell (.vs 37)), (0, 10, .cell (.vs 40)), (0, 21, .cell (.int .i64 (j : Nat)))]) (C := [(37, 0, .vec 1 28 n ptF), (40, 0, .vec 1 3 n (tsF Ts))]) (C' := [(37, 0, .vec 1 28 n (ptS j)), (40, 0, .vec 1 3 n (tsF Ts))]) hn8 hji (Nat.le_of_ble_eq_true rfl) rfl rfl rfl rfl ⟨⟨rfl, rfl, rfl⟩, ⟨rfl, rfl, cw_vsS (by omega) (by decide)⟩, ⟨rfl, rfl, cw_vsS (by omega) (by decide)⟩, ⟨rfl, rfl, rfl⟩, trivial⟩ ⟨⟨rfl, rfl, cw_rowS hn8 hji⟩, ⟨rfl, rfl, ⟨rfl, rfl, rfl, fun _ _ => rfl⟩⟩, trivial⟩ ?_
        refine Sem.block (Sem.of_evC hm T_ok hΓ2 rfl ?_)
        refine evC_go (dec := []) (ks := [(0, 0), (0, 5), (0, 10), (0, 21), (0, 227), (25, 0), (25, 1), (25, 2), (25, 3), (25, 4), (25, 12), (25, 13), (25, 14), (26, 0), (27, 0), (37, 0), (40, 0)]) (ps := [(0 : Int) ≤ (↑j : Int), (↑j : Int) < (↑n : Int), (1 : Nat) = (1 : Nat), (0 : Int) ≤ (↑j : Int), (↑j : Int) < (↑n : Int), (1 : Nat) = (1 : Nat), ptS j j = AV.ptr (25 : Nat) (0 : Nat), ((0 : Nat) < (25 : Nat) ∧ (0 : Nat) < (25 : Nat) + (1 : Nat) ∧ (0 : Nat) < (25 : Nat) + (2 : Nat) ∧ (25 : Nat) ≠ (25 : Nat) + (1 : Nat) ∧ (25 : Nat) ≠ (25 : Nat) + (2 : Nat) ∧ (25 : Nat) + (1 : Nat) ≠ (25 : Nat) + (2 : Nat)) ∧ smap (Peer.sets (Ps j)) = smap (sOf (smap (Peer.sets (Ps j)))) ∧ wmap (Peer.words (Ps j)) = wmap (wOf (wmap (Peer.words (Ps j)))) ∧ ∀ (i : Nat), i < (8 : Nat) → nI (Peer.hd (Ps j)) i = nI (If (nI (Peer.hd (Ps j)))) i, (0 : Int) ≤ (↑j : Int), (↑j : Int) < (↑n : Int), (1 : Nat) = (1 : Nat), (0 : Int) ≤ (↑j : Int), (↑j : Int) < (↑n : Int), (1 : Nat) = (1 : Nat), List.all [!Peer.turn (Ps j) != Ts j] id = true → (0 : Int) ≤ (↑j : Int), List.all [!Peer.turn (Ps j) != Ts j] id = true → (↑j : Int) < (↑n : Int), List.all [!Peer.turn (Ps j) != Ts j] id = true → (1 : Nat) = (1 : Nat), List.all [!Peer.turn (Ps j) != Ts j] id = true → (0 : Int) ≤ (↑j : Int), List.all [!Peer.turn (Ps j) != Ts j] id = true → (↑j : Int) < (↑n : Int), List.all [!Peer.turn (Ps j) != Ts j] id = true → (1 : Nat) = (1 : Nat), List.all [!Peer.turn (Ps j) != Ts j] id = true → ptS j j = AV.ptr (25 : Nat) (0 : Nat), List.all [!Peer.turn (Ps j) != Ts j] id = true → ((0 : Nat) < (25 : Nat) ∧ (0 : Nat) < (25 : Nat) + (1 : Nat) ∧ (0 : Nat) < (25 : Nat) + (2 : Nat) ∧ (25 : Nat) ≠ (25 : Nat) + (1 : Nat) ∧ (25 : Nat) ≠ (25 : Nat) + (2 : Nat) ∧ (25 : Nat) + (1 : Nat) ≠ (25 : Nat) + (2 : Nat)) ∧ smap (Peer.sets (Ps j)) = smap (sOf (smap (Peer.sets (Ps j)))) ∧ wmap (Peer.words (Ps j)) = wmap (wOf (wmap (Peer.words (Ps j)))) ∧ ∀ (i : Nat), i < (8 : Nat) → nI (Peer.hd (Ps j)) i = nI (If (nI (Peer.hd (Ps j)))) i]) (s' := ⟨[(0, 0, Cont.cell (AV.int IntKind.i64 (↑n : Int))), (0, 5, Cont.cell (AV.vs 37)), (0, 10, Cont.cell (AV.vs 40)), (0, 21, Cont.cell (AV.int IntKind.i64 (↑j : Int))), (0, 227, Cont.cell (AV.bool (bif Peer.turn (Ps j) != Ts j then true else desB { me := Peer.me (Ps j), n := Peer.n (Ps j), turn := Peer.turn (Ps j), iss := Peer.iss (Ps j), hd := If (nI (Peer.hd (Ps j))), sets := sOf (smap (Peer.sets (Ps j))), words := wOf (wmap (Peer.words (Ps j))) }))), (25, 0, Cont.cell (AV.int IntKind.i64 (Peer.me (Ps j)))), (25, 1, Cont.cell (AV.int IntKind.i64 (Peer.n (Ps j)))), (25, 2, Cont.cell (AV.int IntKind.i64 (Peer.turn (Ps j)))), (25, 3, Cont.cell (AV.int IntKind.i64 (Peer.iss (Ps j)))), (25, 4, Cont.arr 8 (nI (Peer.hd (Ps j)))), (25, 12, Cont.cell (AV.mp 26)), (25, 13, Cont.cell (AV.mp 27)), (25, 14, Cont.top), (26, 0, Cont.map 2 (smap (Peer.sets (Ps j)))), (27, 0, Cont.map 2 (wmap (Peer.words (Ps j)))), (37, 0, Cont.vec 1 28 n (ptS j)), (40, 0, Cont.vec 1 3 n (tsF Ts))], 4544, 229⟩) (by kernel_rfl) (by kernel_rfl) ?_ ?_
        · exact ⟨by omega, by omega, rfl, by omega, by omega, rfl, ptS_at j, peer_side (Ps j) (by decide), by omega, by omega, rfl, by omega, by omega, rfl, fun _ => by omega, fun _ => by omega, fun _ => rfl, fun _ => by omega, fun _ => by omega, fun _ => rfl, fun _ => ptS_at j, fun _ => peer_side (Ps j) (by decide)⟩
        rw [peer_eta, show desB (Ps j) = false by unfold desB; rw [A.ag.des hji]; rfl, show ((Ps j).turn != Ts j) = false by rw [A.ag.turn hji, bne_self_eq_false]]
        refine evC_if (q := false) (by kernel_rfl) (fun hc => ?_) (fun hc => ?_)
        · cases hc
        clear hc
        refine evC_skip ?_
        refine block_normal ?_
        refine sframe_at ?_
        refine sframe_at ?_
        refine sthen_normal ?_
        refine Sem.wk (unfoc2 (y := Ps j) (A := [(0, 0, .cell (.int .i64 (n : Nat))), (0, 5, .cell (.vs 37)), (0, 10, .cell (.vs 40)), (0, 21, .cell (.int .i64 (j : Nat))), (0, 227, .cell (.bool (bif false then true else false)))]) (A' := [(0, 0, .cell (.int .i64 (n : Nat))), (0, 5, .cell (.vs 37)), (0, 10, .cell (.vs 40)), (0, 21, .cell (.int .i64 (j : Nat))), (0, 227, .cell (.bool (bif false then true else false)))]) (C := [(37, 0, .vec 1 28 n ptF), (40, 0, .vec 1 3 n (tsF Ts))]) (C' := [(37, 0, .vec 1 28 n (ptS j)), (40, 0, .vec 1 3 n (tsF Ts))]) (nx := 4544) (nx' := 4544) hn8 hji (Nat.le_of_ble_eq_true rfl) (Nat.le_refl _) rfl rfl rfl rfl ⟨⟨rfl, rfl, rfl⟩, ⟨rfl, rfl, cw_vsS (by omega) (by decide)⟩, ⟨rfl, rfl, cw_vsS (by omega) (by decide)⟩, ⟨rfl, rfl, rfl⟩, ⟨rfl, rfl, rfl⟩, trivial⟩ ⟨⟨rfl, rfl, cw_rowF⟩, ⟨rfl, rfl, ⟨rfl, rfl, rfl, fun _ _ => rfl⟩⟩, trivial⟩) ?_
        rw [updF_self]
        refine inHome hn8 rfl (Sem.of_evC hm T_ok hΓ rfl ?_)
        refine evC_goL0 (dec := []) (ks := [(0, 0), (0, 5), (0, 10), (0, 21), (37, 0), (40, 0)]) (s' := ⟨[(0, 0, Cont.cell (AV.int IntKind.i64 (↑n : Int))), (0, 5, Cont.cell (AV.vs 37)), (0, 10, Cont.cell (AV.vs 40)), (0, 21, Cont.cell (AV.int IntKind.i64 (IntKind.i64.wrap ((↑j : Int) + 1)))), (37, 0, Cont.vec 1 28 n ptF), (40, 0, Cont.vec 1 3 n (tsF Ts))], 4640, 229⟩) (by kernel_rfl) (by kernel_rfl) ?_
        refine sframe_at ?_
        refine sframe_at ?_
        rw [i64_in ((j : Int) + 1) (by omega)]
        exact sround_normal ⟨j + 1, hji⟩ (home_ren [37, 38, 39, 40] hn8 rfl (by decide) (Nat.le_of_ble_eq_true rfl) ⟨⟨_, rfl, rfl⟩, ⟨_, rfl, rfl⟩, ⟨_, rfl, rfl⟩, ⟨_, rfl, rfl⟩, ⟨_, rfl, cwV_pt hn8 (by decide)⟩, ⟨_, rfl, ⟨rfl, rfl, rfl, fun _ _ => rfl⟩⟩, trivial⟩ rfl) (by show n - (j + 1) < n - j; omega)
      · clear hc
        refine Sem.exit ?_
        refine sthen_exit ?_
        refine sround_exit ?_
        refine block_exit ?_
        refine sthen_normal ?_
        refine Sem.seq ?_
        refine Sem.wk (Wk.imp' (wk_sub [] rfl rfl rfl)) ?_
        refine Sem.of_evC hm T_ok hΓ rfl ?_
        refine evC_goL0 (dec := []) (ks := [(0, 4)]) (s' := ⟨[(0, 4, Cont.cell (AV.bool true))], 3160, 229⟩) (by kernel_rfl) (by kernel_rfl) ?_
        refine sthen_normal ?_
        refine Sem.ret ?_
        refine post_ret ?_
        refine ends_flat (vs := [AV.bool true]) (Nat.zero_lt_succ _) (by kernel_rfl) (flat_of _ (by kernel_rfl)) rfl ?_
        rfl
/-- The acts that are handed in. -/
def AllActs (m : Nat) (f : Nat → AV) : Prop := ∃ acts : Nat → Act, ∀ j, j < m → f j = actV (acts j) ∧ IsU (acts j).B ∧ (acts j).B.length ≤ maxLen
theorem actV_has (a : Act) : Has false true (actV a) := .agg _ fun v hv => by
  simp only [List.mem_cons, List.not_mem_nil, or_false] at hv
  rcases hv with rfl | rfl | rfl | rfl | rfl | rfl
  · exact .int _ _
  · exact .int _ _
  · exact .int _ _
  · exact .int _ _
  · exact .int _ _
  · exact .rs _ _ _ _ rfl fun i hi => (nU_flat _ i).has
def sAgree : Spec := fun args _ _ => match args with
  | [.int .i64 n, .rs 6 m _ f] => some ⟨[AllActs m f ∧ m ≤ maxLen], .bool true, [], []⟩
  | _ => none
theorem agree_ok : SpecOK Try.prog 4 sAgree := by
  refine spec_ownS (by kernel_rfl) T_ok sget_nil Try.func4 rfl rfl fun args hr nb out e => ?_
  unfold sAgree at e
  split at e
  · rename_i n m fl f
    injection e with e; subst e
    by_cases hA : AllActs m f
    rotate_left
    · exact ⟨(fun _ h => nomatch h), true, [], rfl, fun hs => absurd (hs _ List.mem_cons_self).1 hA⟩
    obtain ⟨acts, hA⟩ := hA
    refine ⟨(fun _ h => nomatch h), true, [.int .i64 n, .rs 6 m false fun j => actV (acts j)], rfl, fun hs => ⟨.cons _ _ _ _ (.same _ _ (.int _ _)) (.cons _ _ _ _ (.rs _ _ _ _ _ _ fun i hi => ⟨(hA i hi).1, actV_has _⟩) .nil), agree_walk (hs _ List.mem_cons_self).2 fun j hj => (hA j hj).2⟩⟩
  · cases e
end Go.Eng.S25

/- Seat 25: acts as they are handed in. -/
set_option linter.unusedSimpArgs false
set_option linter.unusedVariables false
namespace Go.Eng.S25
open Go.Proofs Go.IntWalk

theorem crel_head {ρ : Env} {ro : Nat → Prop} {w : World} {a : AV} {l : List AV} {us : List Value} (ha : ∀ n f, a ≠ .arr n f) (h : CRel ρ ro w (a :: l) us) : ∃ u us', us = u :: us' ∧ VRel ρ ro w a u ∧ u.oneCell' = true ∧ CRel ρ ro w l us' := by
  cases h with
  | cons _ _ u us h h1 t => exact ⟨u, us, rfl, h, h1, t⟩
  | arr => exact absurd rfl (ha _ _)
theorem crel_nil {ρ : Env} {ro : Nat → Prop} {w : World} {us : List Value} (h : CRel ρ ro w [] us) : us = [] := by
  cases h; rfl
theorem act_in {w : World} {xs : List AV} {us : List Value} (h : DL w [.int .i64, .int .i64, .int .i64, .int .i64, .int .u64, .sl [.int .u8]] xs us) :
    ∃ a : Act, (IsU a.B ∧ a.B.length ≤ maxLen) ∧ ∀ (ρ : Env) (vs : List Value), CRel ρ (fun b => b < w.heap.size) w (ofSc xs).cells vs → CRel ρ (fun b => b < w.heap.size) w (actV a).cells vs := by
  obtain ⟨b0, a1, u0, r1, rfl, rfl, s0, h⟩ := h.head
  obtain ⟨b1, a2, u1, r2, rfl, rfl, s1, h⟩ := h.head
  obtain ⟨b2, a3, u2, r3, rfl, rfl, s2, h⟩ := h.head
  obtain ⟨b3, a4, u3, r4, rfl, rfl, s3, h⟩ := h.head
  obtain ⟨b4, a5, u4, r5, rfl, rfl, s4, h⟩ := h.head
  obtain ⟨b5, a6, u5, r6, rfl, rfl, s5, h⟩ := h.head
  obtain ⟨rfl, rfl⟩ := h.done
  obtain ⟨x0, rfl, -, -⟩ := s0.int_inv
  obtain ⟨x1, rfl, -, -⟩ := s1.int_inv
  obtain ⟨x2, rfl, -, -⟩ := s2.int_inv
  obtain ⟨x3, rfl, -, -⟩ := s3.int_inv
  obtain ⟨x4, rfl, -, -⟩ := s4.int_inv
  obtain ⟨k, f, g, rfl, -, -, hk, hf⟩ := s5.sl_inv
  have hB : IsB k (rowU f) := ⟨fun i hi => ⟨rfl, by
    have := (rowU_eq hf).2 i hi
    show 0 ≤ iv (ofSc (f i)) ∧ iv (ofSc (f i)) ≤ 255
    generalize iv (ofSc (f i)) = z at this
    simp [Lit.wf] at this
    exact this⟩⟩
  obtain ⟨L, hL1, hL2, -, hL4⟩ := hB.list
  refine ⟨⟨x0, x1, x2, x3, x4, L⟩, ⟨hL2, by show L.length ≤ maxLen; rw [← hL1]; exact hk⟩, fun ρ vs H => ?_⟩
  have H : CRel ρ _ w [.int .i64 x0, .int .i64 x1, .int .i64 x2, .int .i64 x3, .int .u64 x4, .rs 1 k false fun i => ofSc (f i)] vs := H
  show CRel ρ _ w [.int .i64 x0, .int .i64 x1, .int .i64 x2, .int .i64 x3, .int .u64 x4, .rs 1 L.length false (nU L)] vs
  obtain ⟨v0, w0, rfl, q0, p0, H⟩ := crel_head (fun _ _ h => by cases h) H
  obtain ⟨v1, w1, rfl, q1, p1, H⟩ := crel_head (fun _ _ h => by cases h) H
  obtain ⟨v2, w2, rfl, q2, p2, H⟩ := crel_head (fun _ _ h => by cases h) H
  obtain ⟨v3, w3, rfl, q3, p3, H⟩ := crel_head (fun _ _ h => by cases h) H
  obtain ⟨v4, w4, rfl, q4, p4, H⟩ := crel_head (fun _ _ h => by cases h) H
  obtain ⟨v5, w5, rfl, q5, p5, H⟩ := crel_head (fun _ _ h => by cases h) H
  have H := crel_nil H
  subst H
  have q6 := rs_congr q5 fun i hi => ((rowU_eq hf).1 i hi).trans (hL4 i hi)
  rw [hL1] at q6
  exact .cons _ _ _ _ q0 p0 (.cons _ _ _ _ q1 p1 (.cons _ _ _ _ q2 p2 (.cons _ _ _ _ q3 p3 (.cons _ _ _ _ q4 p4 (.cons _ _ _ _ q6 p5 .nil)))))
theorem acts_in {w : World} {m : Nat} {F : Nat → List AV} {G : Nat → List Value} {v : Value} (hv : ∀ ρ, VRel ρ (fun b => b < w.heap.size) w (.rs 6 m false fun i => ofSc (F i)) v)
    (hs : ∀ i, i < m → DL w [.int .i64, .int .i64, .int .i64, .int .i64, .int .u64, .sl [.int .u8]] (F i) (G i)) :
    ∃ acts : Nat → Act, (∀ ρ, VRel ρ (fun b => b < w.heap.size) w (.rs 6 m false fun j => actV (acts j)) v) ∧ ∀ j, j < m → IsU (acts j).B ∧ (acts j).B.length ≤ maxLen := by
  classical
  let acts : Nat → Act := fun j => if h : j < m then Classical.choose (act_in (hs j h)) else ⟨0, 0, 0, 0, 0, []⟩
  have ha : ∀ j, j < m → (IsU (acts j).B ∧ (acts j).B.length ≤ maxLen) ∧ ∀ (ρ : Env) (vs : List Value), CRel ρ (fun b => b < w.heap.size) w (ofSc (F j)).cells vs → CRel ρ (fun b => b < w.heap.size) w (actV (acts j)).cells vs := fun j hj => by
    simp only [acts, hj, dif_pos]
    exact Classical.choose_spec (act_in (hs j hj))
  refine ⟨acts, fun ρ => ?_, fun j hj => (ha j hj).1⟩
  cases hv ρ with
  | rs _ _ cap _ _ a vals hn hm hfull ha' hl hc => exact .rs _ _ cap _ _ a vals hn hm hfull ha' hl fun i hi => (ha i hi).2 ρ _ (hc i hi)
end Go.Eng.S25
