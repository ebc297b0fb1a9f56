/- Seat 25: the peers play: the peers of the two, made. -/
import Derived.Test.YtodnecfgiimclaaEngX
import Derived.Test.YtodnecfgiimclaaEngSB
import Derived.Test.YtodnecfgiimclaaS25ED
import Derived.Test.YtodnecfgiimclaaS25BC
set_option linter.unusedSimpArgs false
set_option linter.unusedVariables false
set_option maxHeartbeats 2000000
namespace Go.Eng.S25
open Go.Proofs Go.IntWalk
set_option maxRecDepth 10000
def am55 (r nx k m : Nat) : Nat := if m = 0 then 0 else if m = 55 then r else if m ≤ 3 * k then r + m else m + nx
theorem after_made55 {A A' : Heap} {k r nx N : Nat} {f : Nat → AV} (hk : k ≤ 8) (hr : 0 < r ∧ r + 3 * k < nx) (hA : slotsB A = true) (hA' : slotsB A' = true) (cA : ConvS (am55 r nx k) A A') (hf : ∀ i, i < k → f i = ptF i) :
 Imp 1 ⟨A ++ ((r, 0, .vec 1 28 k (ptN (r + 1))) :: famH peerL 3 (r + 1) (newF k) k), nx, N⟩ ⟨(A' ++ [(55, 0, .vec 1 28 k f)]) ++ famP (newF k) k, 56, N⟩ := by
 have nA := slotsB_get hA
 have a55 : am55 r nx k 55 = r := rfl
 have aP : ∀ m, 0 < m → m ≤ 3 * k → am55 r nx k m = r + m := fun m h1 h2 => by unfold am55; rw [if_neg (by omega), if_neg (by omega), if_pos h2]
 refine RenL.imp (π := am55 r nx k) ⟨rfl, by show 0 < 56; omega, fun n hn => by unfold am55; rw [if_pos (by omega)]; omega, rfl, fun n m h => ?_, fun n hn => ?_, fun m o c' e => ?_⟩
 ·unfold am55 at h
  split at h <;> split at h <;> (try split at h) <;> (try split at h) <;> (try split at h) <;> (try split at h) <;> omega
 ·have : 56 ≤ n := hn
  unfold am55
  rw [if_neg (by omega), if_neg (by omega), if_neg (by omega)]
  show nx ≤ n + nx
  omega
 rcases app_or e with e | e
 ·rcases app_or e with e1 | e1
  ·have h0 : m = 0 := slotsB_get hA' _ (hget_in e1)
   subst h0
   obtain ⟨c, h1, h2⟩ := cA.get e1
   exact ⟨c, app_left h1, h2⟩
  ·rw [hget_cons] at e1
   split at e1
   ·rename_i he
    obtain ⟨rfl, rfl⟩ := he
    injection e1 with e2; subst e2
    refine ⟨.vec 1 28 k (ptN (r + 1)), ?_, rfl, rfl, rfl, fun i hi => ?_⟩
    ·rw [a55]
     refine app_get (by rw [hget_cons, if_pos ⟨rfl, rfl⟩]) fun x hx hxe => ?_
     have := nA x hx; omega
    ·rw [hf i hi]
     show AV.ptr (r + 1 + 3 * i) 0 = AV.ptr (am55 r nx k (1 + 3 * i)) 0
     rw [aP _ (by omega) (by omega)]
     congr 1
     omega
   ·cases e1
 ·obtain ⟨j, j1, j2⟩ := famH_of e
  have h0 : 1 + 3 * j ≤ m ∧ m < 1 + 3 * j + 3 := peerL_lot.names _ _ _ (hget_in j2)
  obtain ⟨c, q1, q2⟩ := peerL_lot.eqv (r + 1 + 3 * j) (1 + 3 * j) _ _ _ _ j2
  refine ⟨c, ?_, q2 _ fun i hi => by rw [aP _ (by omega) (by omega)]; omega⟩
  rw [aP _ (by omega) (by omega)]
  rw [show m - (1 + 3 * j) + (r + 1 + 3 * j) = r + m by omega] at q1
  refine app_get ?_ fun x hx hxe => ?_
  ·rw [hget_cons, if_neg (fun q => by have := q.1; omega)]
   exact famH_get peerL_lot j1 q1
  ·have := nA x hx; omega
def refL (b : Nat) (P : Peer) : Heap := rcon b (b + 1) (b + 2) P
theorem refL_lot : Lot 3 refL := by
 refine ⟨fun b P e he => ?_, fun b b' P m o c' e => ?_⟩
 ·simp only [refL, rcon, List.mem_cons, List.not_mem_nil, or_false] at he
  rcases he with rfl | rfl | rfl | rfl | rfl | rfl | rfl | rfl | rfl | rfl <;> simp <;> omega
 ·have he := hget_in e
  clear e
  simp only [refL, rcon, List.mem_cons, List.not_mem_nil, or_false, Prod.mk.injEq] at he
  rcases he with ⟨rfl, rfl, rfl⟩ | ⟨rfl, rfl, rfl⟩ | ⟨rfl, rfl, rfl⟩ | ⟨rfl, rfl, rfl⟩ | ⟨rfl, rfl, rfl⟩ | ⟨rfl, rfl, rfl⟩ | ⟨rfl, rfl, rfl⟩ | ⟨rfl, rfl, rfl⟩ | ⟨rfl, rfl, rfl⟩ | ⟨rfl, rfl, rfl⟩
  ·exact ⟨.cell (.int .i64 P.me), by simp [refL, rcon, hget], fun _ _ => rfl⟩
  ·exact ⟨.cell (.int .i64 P.n), by simp [refL, rcon, hget], fun _ _ => rfl⟩
  ·exact ⟨.cell (.int .i64 P.turn), by simp [refL, rcon, hget], fun _ _ => rfl⟩
  ·exact ⟨.cell (.int .i64 P.iss), by simp [refL, rcon, hget], fun _ _ => rfl⟩
  ·exact ⟨.arr 8 (nI P.hd), by simp [refL, rcon, hget], fun _ _ => ⟨rfl, fun _ _ => rfl⟩⟩
  ·exact ⟨.cell (.vs (b + 1)), by simp [refL, rcon, hget], fun π h => by show AV.vs _ = AV.vs _; rw [h 1 (by decide)]⟩
  ·exact ⟨.cell (.vs (b + 2)), by simp [refL, rcon, hget], fun π h => by show AV.vs _ = AV.vs _; rw [h 2 (by decide)]⟩
  ·exact ⟨.top, by simp [refL, rcon, hget], fun _ _ => trivial⟩
  ·refine ⟨.vec 3 81 P.sets.length (rsF P.sets), ?_, fun _ _ => cw_rs _⟩
   rw [show b' + 1 - b' + b = b + 1 by omega]
   simp [refL, rcon, hget, ne_add, ne_add0]
  ·refine ⟨.vec 3 89 P.words.length (rwF P.words), ?_, fun _ _ => cw_rw _⟩
   rw [show b' + 2 - b' + b = b + 2 by omega]
   simp [refL, rcon, hget, ne_add, ne_add0]
theorem refL_low {B b : Nat} (h : b + 2 < B) (P : Peer) : ∀ e ∈ refL b P, ContLow B e.2.2 := by
 intro e he
 simp only [refL, rcon, List.mem_cons, List.not_mem_nil, or_false] at he
 rcases he with rfl | rfl | rfl | rfl | rfl | rfl | rfl | rfl | rfl | rfl
 ·exact .int _ _
 ·exact .int _ _
 ·exact .int _ _
 ·exact .int _ _
 ·exact fun i _ => .int _ _
 ·exact .vs _ (by omega)
 ·exact .vs _ (by omega)
 ·trivial
 ·exact fun i _ => flat_low (rsF_flat _ i)
 ·exact fun i _ => flat_low (rwF_flat _ i)
theorem refL_refl {b : Nat} {P : Peer} {π : Nat → Nat} (h : ∀ i, i < 3 → π (b + i) = b + i) : ∀ e ∈ refL b P, CW π e.2.2 e.2.2 := by
 intro e he
 simp only [refL, rcon, List.mem_cons, List.not_mem_nil, or_false] at he
 rcases he with rfl | rfl | rfl | rfl | rfl | rfl | rfl | rfl | rfl | rfl
 ·rfl
 ·rfl
 ·rfl
 ·rfl
 ·exact ⟨rfl, fun _ _ => rfl⟩
 ·show AV.vs _ = AV.vs _; rw [h 1 (by decide)]
 ·show AV.vs _ = AV.vs _; rw [h 2 (by decide)]
 ·trivial
 ·exact cw_rs _
 ·exact cw_rw _
def famR (xs : Nat → Peer) (n : Nat) : Heap := famH refL 3 25 xs n
def ptR (i : Nat) : AV := .ptr (25 + 3 * i) 0
theorem famR_low {n : Nat} (hn : n ≤ 8) (xs : Nat → Peer) {B : Nat} (hB : 49 ≤ B) : ∀ x ∈ famR xs n, 0 < x.1 ∧ x.1 < B ∧ ContLow B x.2.2 :=
 famH_low refL_lot (by decide) (by omega) fun j hj => refL_low (by omega) _
theorem cat_ptR {i : Nat} {g : Nat → AV} {X : Nat} (hg : g 0 = .ptr X 0) (j : Nat) (hj : j < i + 1) : catF i ptR g j = .ptr (bif j == i then X else 25 + 3 * j) 0 := by
 unfold catF
 rcases Nat.lt_or_ge j i with h | h
 ·rw [nblt_yes h, cond_true, show (j == i) = false by simpa using (by omega : ¬ j = i)]
  rfl
 ·have : j = i := by omega
  subst this
  rw [nblt_no (by omega), cond_false, Nat.sub_self, hg, beq_self_eq_true]
  rfl
def jq (m : Nat) : Nat := if 1 ≤ m ∧ m < 49 then (if (m - 1) % 6 < 3 then 1 + 3 * ((m - 1) / 6) + (m - 1) % 6 else 25 + 3 * ((m - 1) / 6) + ((m - 1) % 6 - 3)) else m
theorem jq_p {j i : Nat} (hj : j < 8) (hi : i < 3) : jq (1 + 6 * j + i) = 1 + 3 * j + i := by
 unfold jq
 have h1 : (1 + 6 * j + i - 1) % 6 = i := by omega
 have h2 : (1 + 6 * j + i - 1) / 6 = j := by omega
 rw [if_pos (by omega), h1, h2, if_pos hi]
theorem jq_d {j i : Nat} (hj : j < 8) (hi : i < 3) : jq (4 + 6 * j + i) = 25 + 3 * j + i := by
 unfold jq
 have h1 : (4 + 6 * j + i - 1) % 6 = 3 + i := by omega
 have h2 : (4 + 6 * j + i - 1) / 6 = j := by omega
 rw [if_pos (by omega), h1, h2, if_neg (by omega)]
 omega
theorem jq_hi {m : Nat} (h : 49 ≤ m) : jq m = m := by unfold jq; rw [if_neg (by omega)]
theorem jq_inj {m m' : Nat} (h : jq m = jq m') : m = m' := by
 unfold jq at h
 split at h <;> split at h <;> (try split at h) <;> (try split at h) <;> omega
theorem join_pairs {A : Heap} {n nx nx' N : Nat} {xs : Nat → Peer} (hn : n ≤ 8) (hnx : 57 ≤ nx) (hnx' : nx ≤ nx') (hA : slotsB A = true) (cA : ConvS jq A A) :
 Imp 1 (St.app (St.app ⟨A ++ [(55, 0, .vec 1 28 n ptF), (56, 0, .vec 1 54 n ptR)], nx, N⟩ (famR xs n)) (famP xs n)) (St.app ⟨A ++ [(55, 0, .vec 1 28 n ptQ), (56, 0, .vec 1 54 n ptD)], nx', N⟩ (famQ xs n)) := by
 have nA := slotsB_get hA
 have nP : ∀ x ∈ famP xs n, 1 ≤ x.1 ∧ x.1 < 25 := fun x hx => by
  obtain ⟨j, h1, h2⟩ := famH_mem hx
  have := peerL_lot.names _ _ _ h2
  omega
 have nR : ∀ x ∈ famR xs n, 25 ≤ x.1 ∧ x.1 < 49 := fun x hx => by
  obtain ⟨j, h1, h2⟩ := famH_mem hx
  have := refL_lot.names _ _ _ h2
  omega
 refine Imp.trans (s' := St.app ⟨A ++ [(55, 0, .vec 1 28 n ptQ), (56, 0, .vec 1 54 n ptD)], nx, N⟩ (famQ xs n)) (RenL.imp (π := jq) ⟨rfl, by show 0 < nx; omega, fun m hm => by rw [show m = 0 by omega]; rfl, rfl, fun m m' e => jq_inj e, fun m hm => ?_, fun m o c' e => ?_⟩) (Imp.up rfl hnx' rfl)
 ·have : nx ≤ m := hm
  rw [jq_hi (by omega)]
  exact hm
 rcases app_or e with e0 | e
 ·rcases app_or e0 with e1 | e1
  ·have h0 : m = 0 := nA _ (hget_in e1)
   subst h0
   obtain ⟨c, h1, h2⟩ := cA.get e1
   exact ⟨c, app_left (app_left (app_left h1)), h2⟩
  ·have hm : m = 55 ∨ m = 56 := by
    have := hget_in e1
    simp only [List.mem_cons, List.not_mem_nil, or_false, Prod.mk.injEq] at this
    omega
   have nA' : ∀ x ∈ A, x.1 ≠ m := fun x hx => by have := nA x hx; omega
   rcases hm with rfl | rfl
   ·rw [hget_cons] at e1
    split at e1
    ·rename_i he
     obtain ⟨_, rfl⟩ := he
     injection e1 with e2; subst e2
     refine ⟨.vec 1 28 n ptF, by rw [jq_hi (by decide)]; exact app_left (app_left (app_get rfl nA')), rfl, rfl, rfl, fun i hi => ?_⟩
     show AV.ptr (1 + 3 * i) 0 = AV.ptr (jq (1 + 6 * i)) 0
     have := jq_p (j := i) (i := 0) (by omega) (by decide)
     rw [Nat.add_zero, Nat.add_zero] at this
     rw [this]
    ·rw [hget_cons, if_neg (by omega)] at e1
     cases e1
   ·rw [hget_cons, if_neg (by omega), hget_cons] at e1
    split at e1
    ·rename_i he
     obtain ⟨_, rfl⟩ := he
     injection e1 with e2; subst e2
     refine ⟨.vec 1 54 n ptR, by rw [jq_hi (by decide)]; exact app_left (app_left (app_get rfl nA')), rfl, rfl, rfl, fun i hi => ?_⟩
     show AV.ptr (25 + 3 * i) 0 = AV.ptr (jq (4 + 6 * i)) 0
     have := jq_d (j := i) (i := 0) (by omega) (by decide)
     rw [Nat.add_zero, Nat.add_zero] at this
     rw [this]
    ·cases e1
 ·obtain ⟨j, j1, j2⟩ := famH_of e
  have e' : hget (peerL (1 + 6 * j) (xs j) ++ refL (4 + 6 * j) (xs j)) m o = some c' := by
   rw [show 4 + 6 * j = 1 + 6 * j + 3 by omega]
   exact j2
  have far : ∀ x ∈ A ++ [(55, 0, .vec 1 28 n ptF), (56, 0, .vec 1 54 n ptR)], x.1 = 0 ∨ 55 ≤ x.1 := fun x hx => by
   rcases List.mem_append.1 hx with hx | hx
   ·exact .inl (nA x hx)
   ·simp only [List.mem_cons, List.not_mem_nil, or_false] at hx
    rcases hx with rfl | rfl
    ·exact .inr (by show 55 ≤ 55; decide)
    ·exact .inr (by show 55 ≤ 56; decide)
  rcases app_or e' with q | q
  ·have h0 : 1 + 6 * j ≤ m ∧ m < 1 + 6 * j + 3 := peerL_lot.names _ _ _ (hget_in q)
   obtain ⟨c, q1, q2⟩ := peerL_lot.eqv (1 + 3 * j) (1 + 6 * j) _ _ _ _ q
   have em : jq m = 1 + 3 * j + (m - (1 + 6 * j)) := by
    have := jq_p (j := j) (i := m - (1 + 6 * j)) (by omega) (by omega)
    rwa [show 1 + 6 * j + (m - (1 + 6 * j)) = m by omega] at this
   refine ⟨c, ?_, q2 _ fun i hi => jq_p (by omega) hi⟩
   rw [em]
   rw [show m - (1 + 6 * j) + (1 + 3 * j) = 1 + 3 * j + (m - (1 + 6 * j)) by omega] at q1
   refine app_get (famH_get peerL_lot j1 q1) fun x hx => ?_
   rcases List.mem_append.1 hx with hx | hx
   ·have := far x hx; omega
   ·have := nR x hx; omega
  ·have h0 : 4 + 6 * j ≤ m ∧ m < 4 + 6 * j + 3 := refL_lot.names _ _ _ (hget_in q)
   obtain ⟨c, q1, q2⟩ := refL_lot.eqv (25 + 3 * j) (4 + 6 * j) _ _ _ _ q
   have em : jq m = 25 + 3 * j + (m - (4 + 6 * j)) := by
    have := jq_d (j := j) (i := m - (4 + 6 * j)) (by omega) (by omega)
    rwa [show 4 + 6 * j + (m - (4 + 6 * j)) = m by omega] at this
   refine ⟨c, ?_, q2 _ fun i hi => jq_d (by omega) hi⟩
   rw [em]
   rw [show m - (4 + 6 * j) + (25 + 3 * j) = 25 + 3 * j + (m - (4 + 6 * j)) by omega] at q1
   refine app_left (app_get (famH_get refL_lot j1 q1) fun x hx => ?_)
   have := far x hx; omega
end Go.Eng.S25
/- Seat 25: the peers play: the document's peers, made; walked. -/
set_option linter.unusedSimpArgs false
set_option linter.unusedVariables false
set_option maxHeartbeats 2000000
namespace Go.Eng.S25
open Go.Proofs Go.IntWalk
set_option maxRecDepth 10000
theorem refs_sem {n m : Nat} {acts : Nat → Act} {Q : Exit → St → Prop} (hn : 2 ≤ n ∧ n ≤ 8)
 (hQ : Q (.exit 0) (St.app ⟨[(0, 0, zI (n : Nat)), (0, 1, .cell (.rs 6 m false fun j => actV (acts j))), (0, 5, zV 55), (0, 7, zV 56), (0, 8, zI (n : Nat)), (0, 40, zB (decide ((n : Int) < (n : Nat)))), (55, 0, .vec 1 28 n ptF), (56, 0, .vec 1 54 n ptR)], 185, 270⟩ (famR (newF n) n))) :
 Sem Try.prog 25 (cpath (Try.f7.body.getD .skip) [1, 1, 1, 1, 1, 0, 1, 2]) (SKeep [0, 1, 5, 7] Q) ⟨[(0, 0, zI (n : Nat)), (0, 1, .cell (.rs 6 m false fun j => actV (acts j))), (0, 5, zV 55), (0, 7, zV 56), (0, 8, zI 0), (55, 0, .vec 1 28 n ptF), (56, 0, .vec 1 54 0 ptR)], 89, 270⟩ := by
 have hm : Try.prog.follows .mixedOrders = true := by kernel_rfl
 have hΓ : SpecsOK Try.prog [(23, sRNew)] := sget_cons rnew_ok sget_nil
 obtain ⟨hn2, hn8⟩ := hn
 refine Sem.loop (ι := { i : Nat // i ≤ n }) (fun x => St.app ⟨[(0, 0, zI (n : Nat)), (0, 1, .cell (.rs 6 m false fun j => actV (acts j))), (0, 5, zV 55), (0, 7, zV 56), (0, 8, zI (x.1 : Nat))] ++ [(55, 0, .vec 1 28 n ptF), (56, 0, .vec 1 54 x.1 ptR)], 89, 270⟩ (famR (newF n) x.1)) (fun x => n - x.1) ⟨0, Nat.zero_le _⟩ (.up rfl (Nat.le_refl _) rfl) ?_
 rintro ⟨i, hi⟩
 refine Sem.frameC (B' := 55) (m := 49) rfl rfl (famR_low (Nat.le_trans hi hn8) _ (by decide)) rfl (fun x hx => (famR_low (Nat.le_trans hi hn8) _ (by decide : 49 ≤ 55) x hx).2.2) ?_
 refine Sem.of_evC hm T_ok hΓ rfl ?_
 refine evC_seq ?_
 refine evC_go0K (s' := ⟨[(0, 0, zI n), (0, 1, .cell (AV.rs 6 m false fun j => actV (acts j))), (0, 5, zV 55), (0, 7, zV 56), (0, 8, zI i), (0, 40, zB (decide ((↑i : Int) < ↑n))), (55, 0, .vec 1 28 n ptF), (56, 0, .vec 1 54 i ptR)], 185, 270⟩) ?_
 refine evC_if (q := decide ((↑i : Int) < (↑n : Int))) (by kernel_rfl) (fun hc => ?_) (fun hc => ?_)
 ·have hlt : i < n := by have := of_decide_eq_true hc; omega
  clear hc
  refine evC_skip ?_
  refine then_normal ?_
  refine evC_seq ?_
  refine evC_block ?_
  refine evC_goLK (ps := [(i + (1 : Nat)) * 8 ≤ 140737488355328, i + (1 : Nat) ≤ maxLen, 1 = 0 ∨ 1 = 1, 1 = 1, 54 = 54]) (s' := ⟨[(0, 0, zI n), (0, 1, .cell (AV.rs 6 m false fun j => actV (acts j))), (0, 5, zV 55), (0, 7, zV 345), (0, 8, zI i), (0, 40, zB (decide ((↑i : Int) < ↑n))), (0, 43, zV 56), (0, 44, zI i), (0, 45, zI n), (0, 46, zP 281), (0, 47, zV 313), (0, 48, zV 345), (55, 0, .vec 1 28 n ptF), (281, 0, zI ((newP (↑i : Int) (↑n : Int)).me)), (281, 1, zI ((newP (↑i : Int) (↑n : Int)).n)), (281, 2, zI ((newP (↑i : Int) (↑n : Int)).turn)), (281, 3, zI ((newP (↑i : Int) (↑n : Int)).iss)), (281, 4, .arr 8 (nI ((newP (↑i : Int) (↑n : Int)).hd))), (281, 12, zV 282), (281, 13, zV 283), (281, 14, .top), (282, 0, .vec 3 81 0 (rsF ((newP (↑i : Int) (↑n : Int)).sets))), (283, 0, .vec 3 89 0 (rwF ((newP (↑i : Int) (↑n : Int)).words))), (313, 0, .vec 1 54 1 (pget [(0, AV.ptr (185 + 32 * (0 + 1 + 1 + 1)) 0)])), (345, 0, .vec 1 54 (i + 1) (catF i ptR (pget [(0, AV.ptr (185 + 32 * (0 + 1 + 1 + 1)) 0)])))], 409, 270⟩) ?_ ?_
  ·exact ⟨by omega, by unfold maxLen; omega, .inr rfl, rfl, rfl⟩
  refine block_normal ?_
  refine then_normal ?_
  refine evC_wk (s' := ⟨[(0, 0, zI n), (0, 1, Cont.cell (AV.rs 6 m false fun j => actV (acts j))), (0, 5, zV 55), (0, 7, zV 56), (0, 8, zI i), (0, 40, zB (decide ((↑i : Int) < ↑n))), (0, 43, zV 57), (0, 44, zI i), (0, 45, zI n), (0, 46, zP 58), (0, 47, zV 59), (0, 48, zV 56), (55, 0, .vec 1 28 n ptF), (56, 0, .vec 1 54 (i + 1) (fun j => .ptr (bif j == i then 58 else 25 + 3 * j) 0)), (58, 0, zI ((newP (↑i : Int) (↑n : Int)).me)), (58, 1, zI ((newP (↑i : Int) (↑n : Int)).n)), (58, 2, zI ((newP (↑i : Int) (↑n : Int)).turn)), (58, 3, zI ((newP (↑i : Int) (↑n : Int)).iss)), (58, 4, Cont.arr 8 (nI ((newP (↑i : Int) (↑n : Int)).hd))), (58, 12, zV 61), (58, 13, zV 62), (58, 14, Cont.top), (59, 0, .dead), (61, 0, Cont.vec 3 81 0 (rsF ((newP (↑i : Int) (↑n : Int)).sets))), (62, 0, Cont.vec 3 89 0 (rwF ((newP (↑i : Int) (↑n : Int)).words)))], 63, 270⟩) _ (wk_go [55, 345, 56, 281, 313, 185, 282, 283] rfl (by decide) rfl rfl ⟨⟨_, rfl, rfl⟩, ⟨_, rfl, rfl⟩, ⟨_, rfl, rfl⟩, ⟨_, rfl, rfl⟩, ⟨_, rfl, rfl⟩, ⟨_, rfl, rfl⟩, ⟨_, rfl, rfl⟩, ⟨_, rfl, rfl⟩, ⟨_, rfl, rfl⟩, ⟨_, rfl, rfl⟩, ⟨_, rfl, rfl⟩, ⟨_, rfl, rfl⟩, ⟨_, rfl, ?_⟩, ⟨_, rfl, ?_⟩, ⟨_, rfl, rfl⟩, ⟨_, rfl, rfl⟩, ⟨_, rfl, rfl⟩, ⟨_, rfl, rfl⟩, ⟨_, rfl, rfl, fun _ _ => rfl⟩, ⟨_, rfl, rfl⟩, ⟨_, rfl, rfl⟩, ⟨_, rfl, trivial⟩, ⟨_, rfl, trivial⟩, ⟨_, rfl, rfl, rfl, rfl, fun _ _ => rfl⟩, ⟨_, rfl, rfl, rfl, rfl, fun _ _ => rfl⟩, trivial⟩) ?_
  ·exact cv_pt (f := fun i => 1 + 3 * i) fun j hj => by omega
  ·refine ⟨rfl, rfl, rfl, fun j hj => ?_⟩
   refine (cat_ptR (X := 281) (g := pget [(0, AV.ptr (185 + 32 * (0 + 1 + 1 + 1)) 0)]) rfl j hj).trans ?_
   show AV.ptr _ 0 = AV.ptr (pi 55 _ _ (bif j == i then 58 else 25 + 3 * j)) 0
   cases j == i with
   | true => rfl
   | false => rw [cond_false, cond_false, pi_lt (by omega)]
  refine evC_goL0K (s' := ⟨[(0, 0, zI n), (0, 1, .cell (AV.rs 6 m false fun j => actV (acts j))), (0, 5, zV 55), (0, 7, zV 56), (0, 8, zI (IntKind.i64.wrap ((↑i : Int) + 1))), (55, 0, .vec 1 28 n ptF), (56, 0, .vec 1 54 (i + 1) fun j => AV.ptr (bif j == i then 58 else 25 + 3 * j) 0), (58, 0, zI ((newP (↑i : Int) (↑n : Int)).me)), (58, 1, zI ((newP (↑i : Int) (↑n : Int)).n)), (58, 2, zI ((newP (↑i : Int) (↑n : Int)).turn)), (58, 3, zI ((newP (↑i : Int) (↑n : Int)).iss)), (58, 4, .arr 8 (nI ((newP (↑i : Int) (↑n : Int)).hd))), (58, 12, zV 61), (58, 13, zV 62), (58, 14, .top), (61, 0, .vec 3 81 0 (rsF ((newP (↑i : Int) (↑n : Int)).sets))), (62, 0, .vec 3 89 0 (rwF ((newP (↑i : Int) (↑n : Int)).words)))], 159, 270⟩) ?_
  refine sframe_at ?_
  rw [i64_in ((i : Int) + 1) (by omega)]
  have hu : updF (newF n) i (newP (i : Nat) (n : Nat)) = newF n := by
   funext j
   by_cases hj : j = i
   ·subst hj; rw [updF_at]; rfl
   ·rw [updF_ne _ _ hj]
  have hc := collectB (B := 25) (k := 3) (by decide) refL_lot (A := [(0, 0, zI (n : Nat)), (0, 1, .cell (.rs 6 m false fun j => actV (acts j))), (0, 5, zV 55), (0, 7, zV 56), (0, 8, zI ((i : Int) + 1))]) (A' := [(0, 0, zI (n : Nat)), (0, 1, .cell (.rs 6 m false fun j => actV (acts j))), (0, 5, zV 55), (0, 7, zV 56), (0, 8, zI ((i + 1 : Nat) : Int))]) (C := [(55, 0, .vec 1 28 n ptF), (56, 0, .vec 1 54 (i + 1) fun j => .ptr (bif j == i then 57 else 25 + 3 * j) 0)]) (C' := [(55, 0, .vec 1 28 n ptF), (56, 0, .vec 1 54 (i + 1) ptR)]) (b := 25) (a := 57) (n := i) (nx := 9000) (nx' := 89) (N := 270) (xs := newF n) (y := newP (i : Nat) (n : Nat)) (Nat.le_refl _) (by omega) (Nat.le_of_ble_eq_true rfl) (Nat.le_of_ble_eq_true rfl) rfl rfl (fun x hx => ?_) (fun x hx => ?_) ⟨⟨rfl, rfl, rfl⟩, ⟨rfl, rfl, rfl⟩, ⟨rfl, rfl, ?_⟩, ⟨rfl, rfl, ?_⟩, ⟨rfl, rfl, rfl⟩, trivial⟩ ⟨⟨rfl, rfl, ⟨rfl, rfl, rfl, fun j hj => ?_⟩⟩, ⟨rfl, rfl, ⟨rfl, rfl, rfl, fun j hj => ?_⟩⟩, trivial⟩
  ·rw [hu] at hc
   refine sround_normal ⟨i + 1, hlt⟩ (Imp.trans (renR (by decide) (h' := (([(0, 0, zI (n : Nat)), (0, 1, .cell (.rs 6 m false fun j => actV (acts j))), (0, 5, zV 55), (0, 7, zV 56), (0, 8, zI ((i : Int) + 1))] : Heap) ++ (([(55, 0, .vec 1 28 n ptF), (56, 0, .vec 1 54 (i + 1) fun j => .ptr (bif j == i then 57 else 25 + 3 * j) 0)] : Heap) ++ refL 57 (newP (i : Nat) (n : Nat))))) (nx' := 9000) [49, 50, 51, 52, 53, 54, 55, 56, 58, 61, 62] rfl (by decide) (Nat.le_of_ble_eq_true rfl) ⟨⟨_, rfl, rfl⟩, ⟨_, rfl, rfl⟩, ⟨_, rfl, rfl⟩, ⟨_, rfl, rfl⟩, ⟨_, rfl, rfl⟩, ⟨_, rfl, cv_pt (f := fun i => 1 + 3 * i) fun j hj => by omega⟩, ⟨_, rfl, ⟨rfl, rfl, rfl, fun j hj => ?_⟩⟩, ⟨_, rfl, rfl⟩, ⟨_, rfl, rfl⟩, ⟨_, rfl, rfl⟩, ⟨_, rfl, rfl⟩, ⟨_, rfl, ⟨rfl, fun _ _ => rfl⟩⟩, ⟨_, rfl, rfl⟩, ⟨_, rfl, rfl⟩, ⟨_, rfl, trivial⟩, ⟨_, rfl, cw_rs _⟩, ⟨_, rfl, cw_rw _⟩, trivial⟩ rfl (fun x hx => ?_) fun π hπ x hx => ?_) hc) (by show n - (i + 1) < n - i; omega)
   ·show AV.ptr (bif j == i then 58 else 25 + 3 * j) 0 = AV.ptr (pi 49 _ _ (bif j == i then 57 else 25 + 3 * j)) 0
    cases j == i with
    | true => rfl
    | false => rw [cond_false, cond_false, pi_lt (by have hj : j < i + 1 := hj; omega)]
   ·obtain ⟨j, h1, h2⟩ := famH_mem hx
    have h1 : j < i := h1
    have := refL_lot.names _ _ _ h2
    omega
   ·obtain ⟨j, h1, h2⟩ := famH_mem hx
    have h1 : j < i := h1
    exact refL_refl (fun k hk => hπ _ (by omega) (by omega)) x h2
  ·simp only [List.mem_cons, List.not_mem_nil, or_false] at hx
   rcases hx with rfl | rfl <;> show 0 < _ ∧ ¬ (_ ≤ _ ∧ _ < _) ∧ _ < _ <;> omega
  ·simp only [List.mem_cons, List.not_mem_nil, or_false] at hx
   rcases hx with rfl | rfl <;> show 0 < _ ∧ ¬ (_ ≤ _ ∧ _ < _) ∧ _ < _ <;> omega
  ·show AV.vs 55 = AV.vs (jn 3 (25 + 3 * i) 57 9000 55)
   rw [jn_low (by omega) (by omega)]
  ·show AV.vs 56 = AV.vs (jn 3 (25 + 3 * i) 57 9000 56)
   rw [jn_low (by omega) (by omega)]
  ·show AV.ptr (1 + 3 * j) 0 = AV.ptr (jn 3 (25 + 3 * i) 57 9000 (1 + 3 * j)) 0
   unfold jn
   rw [if_neg (by omega), if_neg (by omega)]
  ·show AV.ptr (bif j == i then 57 else 25 + 3 * j) 0 = AV.ptr (jn 3 (25 + 3 * i) 57 9000 (25 + 3 * j)) 0
   by_cases hji : j = i
   ·subst hji
    rw [beq_self_eq_true, cond_true]
    unfold jn
    rw [if_pos (by omega)]
    congr 1
    omega
   ·have hb : (j == i) = false := by simpa using hji
    rw [hb, cond_false]
    unfold jn
    rw [if_neg (by omega), if_neg (by omega)]
 ·have hin : i = n := by have := of_decide_eq_false hc; omega
  subst hin
  clear hc
  refine evC_exit ?_
  refine then_exit ?_
  refine sframe_at ?_
  refine sround_exit ?_
  refine skeep_at ?_
  exact hQ
end Go.Eng.S25