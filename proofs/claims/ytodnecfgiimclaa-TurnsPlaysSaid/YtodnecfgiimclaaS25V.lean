/- Seat 25: a family of peers, made. -/
import Derived.Test.YtodnecfgiimclaaEngX
import Derived.Test.YtodnecfgiimclaaEngSB
import Derived.Test.YtodnecfgiimclaaS25P
set_option linter.unusedSimpArgs false
set_option linter.unusedVariables false
set_option maxHeartbeats 2000000
namespace Go.Eng.S25
open Go.Proofs Go.IntWalk
set_option maxRecDepth 10000
def peerL (b : Nat) (P : Peer) : Heap := pcon b (b + 1) (b + 2) P
theorem peerL_lot : Lot 3 peerL := by
 refine ⟨fun b P e he => ?_, fun b b' P m o c' e => ?_⟩
 ·simp only [peerL, pcon, List.mem_cons, List.not_mem_nil, or_false] at he
  rcases he with rfl | rfl | rfl | rfl | rfl | rfl | rfl | rfl | rfl | rfl <;> simp <;> omega
 ·have he := hget_in e
  clear e
  simp only [peerL, pcon, List.mem_cons, List.not_mem_nil, or_false, Prod.mk.injEq] at he
  rcases he with ⟨rfl, rfl, rfl⟩ | ⟨rfl, rfl, rfl⟩ | ⟨rfl, rfl, rfl⟩ | ⟨rfl, rfl, rfl⟩ | ⟨rfl, rfl, rfl⟩ | ⟨rfl, rfl, rfl⟩ | ⟨rfl, rfl, rfl⟩ | ⟨rfl, rfl, rfl⟩ | ⟨rfl, rfl, rfl⟩ | ⟨rfl, rfl, rfl⟩
  ·exact ⟨.cell (.int .i64 P.me), by simp [peerL, pcon, hget], fun _ _ => rfl⟩
  ·exact ⟨.cell (.int .i64 P.n), by simp [peerL, pcon, hget], fun _ _ => rfl⟩
  ·exact ⟨.cell (.int .i64 P.turn), by simp [peerL, pcon, hget], fun _ _ => rfl⟩
  ·exact ⟨.cell (.int .i64 P.iss), by simp [peerL, pcon, hget], fun _ _ => rfl⟩
  ·exact ⟨.arr 8 (nI P.hd), by simp [peerL, pcon, hget], fun _ _ => ⟨rfl, fun _ _ => rfl⟩⟩
  ·exact ⟨.cell (.mp (b + 1)), by simp [peerL, pcon, hget], fun π h => by show AV.mp _ = AV.mp _; rw [h 1 (by decide)]⟩
  ·exact ⟨.cell (.mp (b + 2)), by simp [peerL, pcon, hget], fun π h => by show AV.mp _ = AV.mp _; rw [h 2 (by decide)]⟩
  ·exact ⟨.top, by simp [peerL, pcon, hget], fun _ _ => trivial⟩
  ·refine ⟨.map 2 (smap P.sets), ?_, fun _ _ => cw_smap _⟩
   have e1 : b' + 1 - b' + b = b + 1 := by omega
   have e2 : (b == b + 1) = false := beq_eq_false_iff_ne.2 (by omega)
   rw [e1]
   simp [peerL, pcon, hget, e2]
  ·refine ⟨.map 2 (wmap P.words), ?_, fun _ _ => cw_map (flat_wmap _)⟩
   have e1 : b' + 2 - b' + b = b + 2 := by omega
   have e2 : (b == b + 2) = false := beq_eq_false_iff_ne.2 (by omega)
   have e3 : (b + 1 == b + 2) = false := beq_eq_false_iff_ne.2 (by omega)
   rw [e1]
   simp [peerL, pcon, hget, e2, e3]
theorem peerL_low {B b : Nat} (h : b + 2 < B) (P : Peer) : ∀ e ∈ peerL b P, ContLow B e.2.2 := by
 intro e he
 simp only [peerL, pcon, List.mem_cons, List.not_mem_nil, or_false] at he
 rcases he with rfl | rfl | rfl | rfl | rfl | rfl | rfl | rfl | rfl | rfl
 ·exact .int _ _
 ·exact .int _ _
 ·exact .int _ _
 ·exact .int _ _
 ·exact fun i _ => .int _ _
 ·exact .mp _ (by omega)
 ·exact .mp _ (by omega)
 ·trivial
 ·intro x hx
  simp only [smap, List.mem_map] at hx
  obtain ⟨y, _, rfl⟩ := hx
  exact .rs _ _ _ _ fun i _ => .int _ _
 ·intro x hx
  simp only [wmap, List.mem_map] at hx
  obtain ⟨y, _, rfl⟩ := hx
  exact .int _ _
def famP (xs : Nat → Peer) (n : Nat) : Heap := famH peerL 3 1 xs n
theorem famP_low {n : Nat} (hn : n ≤ 8) (xs : Nat → Peer) {B : Nat} (hB : 25 ≤ B) : ∀ x ∈ famP xs n, 0 < x.1 ∧ x.1 < B ∧ ContLow B x.2.2 :=
 famH_low peerL_lot (by decide) (by omega) fun j hj e he => peerL_low (by omega) _ e he
def ptF (i : Nat) : AV := .ptr (1 + 3 * i) 0
def newF (n : Nat) (i : Nat) : Peer := newP (i : Nat) (n : Nat)
def ptG (i a : Nat) (j : Nat) : AV := .ptr (bif j == i then a else 1 + 3 * j) 0
theorem cat_ptr {B nx a i X : Nat} {l : List Nat} (hi : i < 8) (hB : 25 ≤ B) (hX : pi B nx l a = X) (j : Nat) (hj : j < i + 1) : catF i ptF (pget [(0, AV.ptr X 0)]) j = (ptG i a j).ren (pi B nx l) := by
 by_cases hji : j = i
 ·subst hji
  show (bif Nat.blt j j then ptF j else pget [(0, AV.ptr X 0)] (j - j)) = AV.ptr (pi B nx l (bif j == j then a else 1 + 3 * j)) 0
  rw [nblt_no (by omega), Nat.sub_self, beq_self_eq_true, cond_true, hX]
  rfl
 ·have hb : (j == i) = false := by simpa using hji
  show (bif Nat.blt j i then ptF j else pget [(0, AV.ptr X 0)] (j - i)) = AV.ptr (pi B nx l (bif j == i then a else 1 + 3 * j)) 0
  rw [nblt_yes (by omega), hb, cond_false, cond_true, pi_lt (by omega)]
  rfl
theorem jn_low {k b a nx m : Nat} (h1 : m < a) (h2 : b + k ≤ m) : jn k b a nx m = m := by
 unfold jn
 rw [if_neg (by omega), if_neg (by omega)]
theorem made_sem {n : Nat} (hn : 2 ≤ n ∧ n ≤ 8) {nb : Nat} {out : Out} (hQ : ∀ nx, 30 ≤ nx → Ends T Try.f9 [] nb out true ⟨[(0, 2, zV 28), (0, 3, zB true), (28, 0, .vec 1 28 n ptF)] ++ famP (newF n) n, nx, 30⟩) : Sem Try.prog 1 (Try.f9.body.getD .skip) (Post T Try.f9 [] nb out true) ⟨slots0 0 [.int .i64 n], 1, Try.f9.ntmps⟩ := by
 have hm : Try.prog.follows .mixedOrders = true := by kernel_rfl
 have hΓ : SpecsOK Try.prog [(18, sNewG)] := sget_cons newG_ok sget_nil
 refine Sem.seq ?_
 refine Sem.of_evC hm T_ok hΓ rfl ?_
 refine evC_goL0K (s' := ⟨[(0, 0, zI n), (0, 2, .cell AV.nils), (0, 3, zB false)], 65, 30⟩) ?_
 refine sthen_normal ?_
 refine Sem.seq ?_
 refine Sem.of_evC hm T_ok hΓ rfl ?_
 refine evC_goL0K (s' := ⟨[(0, 0, zI n), (0, 2, .cell AV.nils), (0, 3, zB false), (0, 4, .cell AV.nils)], 97, 30⟩) ?_
 refine sthen_normal ?_
 refine Sem.seq ?_
 refine Sem.seq ?_
 refine Sem.of_evC hm T_ok hΓ rfl ?_
 refine evC_goL0K (s' := ⟨[(0, 0, zI n), (0, 2, .cell AV.nils), (0, 3, zB false), (0, 4, .cell AV.nils), (0, 5, zI 0)], 129, 30⟩) ?_
 refine sthen_normal ?_
 refine Sem.block ?_
 refine Sem.loop (ι := { i : Nat // i ≤ n }) (fun i => ⟨([(0, 0, zI n), (0, 4, zV 28), (0, 5, zI (i.1 : Nat))] ++ [(28, 0, .vec 1 28 i.1 ptF)]) ++ famP (newF n) i.1, 29, 30⟩) (fun i => n - i.1) ⟨0, Nat.zero_le _⟩ (Wk.imp' (.trans (wk_go (h' := [(0, 0, zI n), (0, 4, .cell .nils), (0, 5, zI 0)]) (nx' := 28) (N' := 30) (List.range' 1 27) rfl (by decide) rfl rfl ⟨⟨_, rfl, rfl⟩, ⟨_, rfl, rfl⟩, ⟨_, rfl, rfl⟩, trivial⟩) (.trans (.nil 0 4 1 28 ptF (Nat.le_of_ble_eq_true rfl) rfl) (wk_sub [(0, 0), (0, 4), (0, 5), (28, 0)] rfl rfl rfl)))) ?_
 rintro ⟨i, hi⟩
 refine Sem.frameC (B' := 28) (m := 25) (R := famP (newF n) i) (s := ⟨[(0, 0, zI n), (0, 4, zV 28), (0, 5, zI (i : Nat)), (28, 0, .vec 1 28 i ptF)], 29, 30⟩) rfl rfl (famP_low (by omega) _ (by decide)) rfl (fun x hx => (famP_low (by omega) _ (by decide : 25 ≤ 28) x hx).2.2) ?_
 refine Sem.of_evC hm T_ok hΓ rfl ?_
 refine evC_seq ?_
 refine evC_go0K (s' := ⟨[(0, 0, zI n), (0, 4, zV 28), (0, 5, zI i), (0, 10, zB (decide ((↑i : Int) < ↑n))), (28, 0, .vec 1 28 i ptF)], 125, 30⟩) ?_
 refine evC_if (q := decide ((↑i : Int) < (↑n : Int))) (by kernel_rfl) (fun hc => ?_) (fun hc => ?_)
 ·have hlt : i < n := by have := of_decide_eq_true hc; omega
  clear hc
  have hmay : mayP (i : Int) (n : Int) = true := by
   unfold mayP
   rw [decide_eq_true (by omega), decide_eq_true (by omega), decide_eq_true (by omega), decide_eq_true (by omega)]
   rfl
  refine evC_skip ?_
  refine then_normal ?_
  refine evC_seq ?_
  refine evC_block ?_
  refine evC_goK (ps := [mayP (↑i : Int) (↑n : Int) = true]) (s' := ⟨[(0, 0, zI n), (0, 4, zV 28), (0, 5, zI i), (0, 6, zP 189), (0, 7, zI 0), (28, 0, .vec 1 28 i ptF), (189, 0, zI ((newP (↑i : Int) (↑n : Int)).me)), (189, 1, zI ((newP (↑i : Int) (↑n : Int)).n)), (189, 2, zI ((newP (↑i : Int) (↑n : Int)).turn)), (189, 3, zI ((newP (↑i : Int) (↑n : Int)).iss)), (189, 4, .arr 8 (nI ((newP (↑i : Int) (↑n : Int)).hd))), (189, 12, zM 190), (189, 13, zM 191), (189, 14, .top), (190, 0, .map 2 []), (191, 0, .map 2 [])], 381, 30⟩) ?_ ?_
  ·exact hmay
  refine evC_seq ?_
  refine evC_go0K (s' := ⟨[(0, 0, zI n), (0, 4, zV 28), (0, 5, zI i), (0, 6, zP 189), (0, 24, zB false), (28, 0, .vec 1 28 i ptF), (189, 0, zI ((newP (↑i : Int) (↑n : Int)).me)), (189, 1, zI ((newP (↑i : Int) (↑n : Int)).n)), (189, 2, zI ((newP (↑i : Int) (↑n : Int)).turn)), (189, 3, zI ((newP (↑i : Int) (↑n : Int)).iss)), (189, 4, .arr 8 (nI ((newP (↑i : Int) (↑n : Int)).hd))), (189, 12, zM 190), (189, 13, zM 191), (189, 14, .top), (190, 0, .map 2 []), (191, 0, .map 2 [])], 573, 30⟩) ?_
  refine evC_if (q := false) (by kernel_rfl) (fun hc => ?_) (fun hc => ?_)
  ·cases hc
  clear hc
  refine evC_skip ?_
  refine then_normal ?_
  refine evC_goLK (ps := [(i + (1 : Nat)) * 8 ≤ 140737488355328, i + (1 : Nat) ≤ maxLen, 1 = 0 ∨ 1 = 1, 1 = 1, 28 = 28]) (s' := ⟨[(0, 0, zI n), (0, 4, zV 669), (0, 5, zI i), (189, 0, zI ((newP (↑i : Int) (↑n : Int)).me)), (189, 1, zI ((newP (↑i : Int) (↑n : Int)).n)), (189, 2, zI ((newP (↑i : Int) (↑n : Int)).turn)), (189, 3, zI ((newP (↑i : Int) (↑n : Int)).iss)), (189, 4, .arr 8 (nI ((newP (↑i : Int) (↑n : Int)).hd))), (189, 12, zM 190), (189, 13, zM 191), (189, 14, .top), (190, 0, .map 2 []), (191, 0, .map 2 []), (669, 0, .vec 1 28 (i + 1) (catF i ptF (pget [(0, AV.ptr 189 0)])))], 733, 30⟩) ?_ ?_
  ·exact ⟨by omega, by unfold maxLen; omega, .inr rfl, rfl, rfl⟩
  refine block_normal ?_
  refine then_normal ?_
  refine evC_wk (s' := ⟨[(0, 0, zI n), (0, 4, zV 28), (0, 5, zI i), (28, 0, .vec 1 28 (i + 1) (fun j => .ptr (bif j == i then 29 else 1 + 3 * j) 0)), (29, 0, zI ((newP (↑i : Int) (↑n : Int)).me)), (29, 1, zI ((newP (↑i : Int) (↑n : Int)).n)), (29, 2, zI ((newP (↑i : Int) (↑n : Int)).turn)), (29, 3, zI ((newP (↑i : Int) (↑n : Int)).iss)), (29, 4, Cont.arr 8 (nI ((newP (↑i : Int) (↑n : Int)).hd))), (29, 12, zM 30), (29, 13, zM 31), (29, 14, Cont.top), (30, 0, Cont.map 2 []), (31, 0, Cont.map 2 [])], 32, 30⟩) _ (wk_go [669, 189, 190, 191] rfl (by decide) rfl rfl ⟨⟨_, rfl, rfl⟩, ⟨_, rfl, rfl⟩, ⟨_, rfl, rfl⟩, ⟨_, rfl, ?_⟩, ⟨_, rfl, rfl⟩, ⟨_, rfl, rfl⟩, ⟨_, rfl, rfl⟩, ⟨_, rfl, rfl⟩, ⟨_, rfl, rfl, fun _ _ => rfl⟩, ⟨_, rfl, rfl⟩, ⟨_, rfl, rfl⟩, ⟨_, rfl, trivial⟩, ⟨_, rfl, cw_map .nil⟩, ⟨_, rfl, cw_map .nil⟩, trivial⟩) ?_
  ·exact ⟨rfl, rfl, rfl, cat_ptr (by omega) (by decide) rfl⟩
  refine evC_goL0K (s' := ⟨[(0, 0, zI n), (0, 4, zV 28), (0, 5, zI (IntKind.i64.wrap ((↑i : Int) + 1))), (28, 0, .vec 1 28 (i + 1) fun j => AV.ptr (bif j == i then 29 else 1 + 3 * j) 0), (29, 0, zI ((newP (↑i : Int) (↑n : Int)).me)), (29, 1, zI ((newP (↑i : Int) (↑n : Int)).n)), (29, 2, zI ((newP (↑i : Int) (↑n : Int)).turn)), (29, 3, zI ((newP (↑i : Int) (↑n : Int)).iss)), (29, 4, .arr 8 (nI ((newP (↑i : Int) (↑n : Int)).hd))), (29, 12, zM 30), (29, 13, zM 31), (29, 14, .top), (30, 0, .map 2 []), (31, 0, .map 2 [])], 128, 30⟩) ?_
  refine sframe_at ?_
  have hu : updF (newF n) i (newP (i : Nat) (n : Nat)) = newF n := by
   funext j
   by_cases hj : j = i
   ·subst hj; rw [updF_at]; rfl
   ·rw [updF_ne _ _ hj]
  refine sround_normal ⟨i + 1, hlt⟩ ?_ (by show n - (i + 1) < n - i; omega)
  have hc := collect (k := 3) peerL_lot (A := [(0, 0, zI n), (0, 4, zV 28), (0, 5, zI (IntKind.i64.wrap ((i : Int) + 1)))]) (A' := [(0, 0, zI n), (0, 4, zV 28), (0, 5, zI ((i + 1 : Nat) : Int))])
   (C := [(28, 0, .vec 1 28 (i + 1) fun j => .ptr (bif j == i then 29 else 1 + 3 * j) 0)]) (C' := [(28, 0, .vec 1 28 (i + 1) ptF)]) (b := 1) (a := 29) (n := i) (nx := 128) (nx' := 29) (N := 30) (xs := newF n) (y := newP (i : Nat) (n : Nat)) (by decide) (by omega) (by decide) (by decide) rfl rfl (fun x hx => by rw [List.mem_singleton.1 hx]; show _ ∧ 28 < 29; omega) (fun x hx => by rw [List.mem_singleton.1 hx]; show _ ∧ 28 < 29; omega) ?_ ?_
  ·rw [hu] at hc
   exact hc
  ·refine ⟨⟨rfl, rfl, rfl⟩, ⟨rfl, rfl, ?_⟩, ⟨rfl, rfl, ?_⟩, trivial⟩
   ·show AV.vs 28 = AV.vs (jn 3 (1 + 3 * i) 29 128 28)
    rw [jn_low (by omega) (by omega)]
   ·show AV.int _ _ = AV.int _ _
    rw [i64_in ((i : Int) + 1) (by omega)]
    rfl
  ·refine ⟨⟨rfl, rfl, rfl, rfl, rfl, fun j hj => ?_⟩, trivial⟩
   show AV.ptr (bif j == i then 29 else 1 + 3 * j) 0 = AV.ptr (jn 3 (1 + 3 * i) 29 128 (1 + 3 * j)) 0
   by_cases hji : j = i
   ·subst hji
    rw [beq_self_eq_true, cond_true]
    unfold jn
    rw [if_pos (by omega)]
    congr 1
    omega
   ·have hb : (j == i) = false := by simpa using hji
    rw [hb, cond_false]
    unfold jn
    rw [if_neg (by omega), if_neg (by omega)]
 ·have hin : i = n := by have := of_decide_eq_false hc; omega
  subst hin
  clear hc
  refine evC_exit ?_
  refine then_exit ?_
  refine sframe_at ?_
  refine sround_exit ?_
  refine block_exit ?_
  refine sthen_normal ?_
  refine Sem.seq ?_
  skip
  refine Sem.frameC (B' := 28) (m := 25) rfl rfl (famP_low (by omega) _ (by decide)) rfl (fun x hx => (famP_low (by omega) _ (by decide : 25 ≤ 28) x hx).2.2) ?_
  refine Sem.of_evC hm T_ok hΓ rfl ?_
  refine evC_goL0K (s' := ⟨[(0, 2, zV 28), (0, 3, zB true), (28, 0, .vec 1 28 i ptF)], 221, 30⟩) ?_
  refine sframe_at ?_
  refine sthen_normal ?_
  refine Sem.ret ?_
  refine post_ret ?_
  skip
  exact hQ _ (Nat.le_of_ble_eq_true rfl)
end Go.Eng.S25
/- Seat 25: a family of peers, as a function hands it on. -/
set_option linter.unusedSimpArgs false
set_option linter.unusedVariables false
set_option maxHeartbeats 2000000
namespace Go.Eng.S25
open Go.Proofs Go.IntWalk
set_option maxRecDepth 10000
theorem convH_of {π : Nat → Nat} {h : Heap} : ∀ {l : Heap}, (∀ x ∈ l, ∃ c, hget h (π x.1) x.2.1 = some c ∧ CW π x.2.2 c) → ConvH π h l
 | [], _ => trivial
 | x :: l, hx => ⟨hx x List.mem_cons_self, convH_of fun y hy => hx y (List.mem_cons_of_mem _ hy)⟩
theorem upsH_of {K : List Nat} {nb m : Nat} {b : Bool} {fin : Heap} : ∀ {l : Heap}, (∀ x ∈ l, x.2.2.live → ∃ n' c', x.1 = sgm K nb n' ∧ (Nat.blt 0 n' && Nat.blt n' m) = true ∧ hget fin n' x.2.1 = some c' ∧ CF b (sgm K nb) c' x.2.2) → UpsH K nb b m fin l
 | [], _ => trivial
 | x :: l, hx => ⟨hx x List.mem_cons_self, upsH_of fun y hy => hx y (List.mem_cons_of_mem _ hy)⟩
theorem peerL_at {b b' : Nat} {P : Peer} {x : Nat × Nat × Cont} (hx : x ∈ peerL b P) : ∃ i c', i < 3 ∧ x.1 = b + i ∧ hget (peerL b' P) (b' + i) x.2.1 = some c' ∧ (∀ σ, (∀ i, i < 3 → σ (b' + i) = b + i) → CF true σ c' x.2.2) ∧ hget (peerL b P) (b + i) x.2.1 = some x.2.2 := by
 have e2 : ∀ b : Nat, (b == b + 1) = false := fun b => beq_eq_false_iff_ne.2 (by omega)
 have e3 : ∀ b : Nat, (b == b + 2) = false := fun b => beq_eq_false_iff_ne.2 (by omega)
 have e4 : ∀ b : Nat, (b + 1 == b + 2) = false := fun b => beq_eq_false_iff_ne.2 (by omega)
 simp only [peerL, pcon, List.mem_cons, List.not_mem_nil, or_false] at hx
 rcases hx with rfl | rfl | rfl | rfl | rfl | rfl | rfl | rfl | rfl | rfl
 ·exact ⟨0, .cell (.int .i64 P.me), by decide, rfl, by simp [peerL, pcon, hget], fun σ _ => ⟨.int _ _, rfl⟩, by simp [peerL, pcon, hget]⟩
 ·exact ⟨0, .cell (.int .i64 P.n), by decide, rfl, by simp [peerL, pcon, hget], fun σ _ => ⟨.int _ _, rfl⟩, by simp [peerL, pcon, hget]⟩
 ·exact ⟨0, .cell (.int .i64 P.turn), by decide, rfl, by simp [peerL, pcon, hget], fun σ _ => ⟨.int _ _, rfl⟩, by simp [peerL, pcon, hget]⟩
 ·exact ⟨0, .cell (.int .i64 P.iss), by decide, rfl, by simp [peerL, pcon, hget], fun σ _ => ⟨.int _ _, rfl⟩, by simp [peerL, pcon, hget]⟩
 ·exact ⟨0, .arr 8 (nI P.hd), by decide, rfl, by simp [peerL, pcon, hget], fun σ _ => ⟨rfl, fun i _ => ⟨.int _ _, rfl⟩⟩, by simp [peerL, pcon, hget]⟩
 ·exact ⟨0, .cell (.mp (b' + 1)), by decide, rfl, by simp [peerL, pcon, hget], fun σ h => ⟨.mp _ rfl, by show AV.mp _ = AV.mp _; rw [h 1 (by decide)]⟩, by simp [peerL, pcon, hget]⟩
 ·exact ⟨0, .cell (.mp (b' + 2)), by decide, rfl, by simp [peerL, pcon, hget], fun σ h => ⟨.mp _ rfl, by show AV.mp _ = AV.mp _; rw [h 2 (by decide)]⟩, by simp [peerL, pcon, hget]⟩
 ·exact ⟨0, .top, by decide, rfl, by simp [peerL, pcon, hget], fun σ _ => trivial, by simp [peerL, pcon, hget]⟩
 ·exact ⟨1, .map 2 (smap P.sets), by decide, rfl, by simp [peerL, pcon, hget, e2], fun σ _ => cf_smap _, by simp [peerL, pcon, hget, e2]⟩
 ·exact ⟨2, .map 2 (wmap P.words), by decide, rfl, by simp [peerL, pcon, hget, e3, e4], fun σ _ => cf_map (flat_wmap _), by simp [peerL, pcon, hget, e3, e4]⟩
def ptN (b : Nat) (i : Nat) : AV := .ptr (b + 3 * i) 0
def sMade (k : Nat) : Spec := fun args _ nb => match args with
 | [.int .i64 n] => some ⟨[n = (k : Nat)], .tup [.vs nb, .bool true], [], (nb, 0, .vec 1 28 k (ptN (nb + 1))) :: famH peerL 3 (nb + 1) (newF k) k⟩
 | _ => none
theorem made_ends {n nx nb : Nat} (hn : 2 ≤ n ∧ n ≤ 8) (hx : 30 ≤ nx) (sd : List Prop) : Ends T Try.f9 [] nb ⟨sd, .tup [.vs nb, .bool true], [], (nb, 0, .vec 1 28 n (ptN (nb + 1))) :: famH peerL 3 (nb + 1) (newF n) n⟩ true
 ⟨[(0, 2, zV 28), (0, 3, zB true), (28, 0, .vec 1 28 n ptF)] ++ famP (newF n) n, nx, 30⟩ := by
 have hl : ∀ m, 2 ≤ m → m < 2 + 3 * n → (28 :: List.range' 1 (3 * n))[m - 1]? = some (m - 1) := fun m h1 h2 => by
  obtain ⟨m, rfl⟩ : ∃ k, m = k + 2 := ⟨m - 2, by omega⟩
  show (28 :: List.range' 1 (3 * n))[m + 1]? = some (m + 1)
  rw [List.getElem?_cons_succ, List.getElem?_range' (by omega)]
  congr 1
  omega
 have p2 : ∀ m, 2 ≤ m → m < 2 + 3 * n → pi (([] : List Nat).length + 1) nx (28 :: List.range' 1 (3 * n)) m = m - 1 := fun m h1 h2 => by
  rw [pi_ge (by show ¬ m < 1; omega)]
  show ((28 :: List.range' 1 (3 * n))[m - 1]?).getD _ = _
  rw [hl m h1 h2]; rfl
 have p1 : pi (([] : List Nat).length + 1) nx (28 :: List.range' 1 (3 * n)) 1 = 28 := rfl
 refine ends_go (28 :: List.range' 1 (3 * n)) (.tup [.vs 1, .bool true]) ((1, 0, .vec 1 28 n (ptN 2)) :: famH peerL 3 2 (newF n) n) ?_ ?_ (vs := [.vs 28, .bool true]) ?_ ?_ ?_ ?_ ?_ ?_ (kept_nil _)
 ·have a1 : Nat.ble (28 :: List.range' 1 (3 * n)).length 32 = true := Nat.ble_eq_true_of_le (by simp; omega)
  have a2 : Nat.blt ([] : List Nat).length nx = true := by simp [Nat.blt_eq]; omega
  have a3 : ((28 :: List.range' 1 (3 * n)).all fun x => Nat.blt ([] : List Nat).length x && Nat.blt x nx) = true := by
   rw [List.all_eq_true]
   intro x hx'
   have : 0 < x ∧ x < nx := by
    rcases List.mem_cons.1 hx' with rfl | hx'
    ·omega
    ·have := List.mem_range'_1.1 hx'; omega
   simp [Nat.blt_eq]; omega
  show (_ && _ && _) = true
  rw [a1, a3]
  show (true && Nat.blt ([] : List Nat).length nx && true) = true
  rw [a2]; rfl
 ·rw [List.nodup_cons]
  refine ⟨fun h => ?_, List.nodup_range'⟩
  have := List.mem_range'_1.1 h
  omega
 ·rfl
 ·rfl
 ·exact .tup _ fun v hv => by
   simp only [List.mem_cons, List.not_mem_nil, or_false] at hv
   rcases hv with rfl | rfl
   ·exact .vs _ rfl
   ·exact .bool _
 ·show AV.tup [.vs nb, .bool true] = AV.tup [.vs (nb + 0), .bool true]
  rfl
 ·refine ⟨⟨.vec 1 28 n ptF, rfl, rfl, rfl, rfl, fun i hi => ?_⟩, convH_of fun x hx' => ?_⟩
  ·show AV.ptr (1 + 3 * i) 0 = AV.ptr (pi (([] : List Nat).length + 1) nx (28 :: List.range' 1 (3 * n)) (2 + 3 * i)) 0
   rw [p2 _ (by omega) (by omega)]
   congr 1
   omega
  ·obtain ⟨j, j1, j2⟩ := famH_mem hx'
   obtain ⟨i, c', i1, i2, _, _, i3⟩ := peerL_at (b' := 0) j2
   obtain ⟨c, q1, q2⟩ := peerL_lot.eqv (1 + 3 * j) (2 + 3 * j) _ _ _ _ i3
   have hpi : ∀ i, i < 3 → pi (([] : List Nat).length + 1) nx (28 :: List.range' 1 (3 * n)) (2 + 3 * j + i) = 1 + 3 * j + i := fun i hi => by
    rw [p2 _ (by omega) (by omega)]; omega
   refine ⟨c, ?_, q2 _ hpi⟩
   rw [i2, hpi i i1]
   rw [show 2 + 3 * j + i - (2 + 3 * j) + (1 + 3 * j) = 1 + 3 * j + i by omega] at q1
   refine app_get (famH_get peerL_lot j1 q1) fun y hy hye => ?_
   simp only [List.mem_cons, List.not_mem_nil, or_false] at hy
   rcases hy with rfl | rfl | rfl <;> simp only at hye <;> omega
 ·have sg : ∀ m, sgm [] nb (m + 1) = nb + m := fun m => by simp [sgm]
  refine ⟨fun _ => ⟨1, .vec 1 28 n (ptN 2), rfl, ?_, rfl, rfl, rfl, rfl, fun i hi => ⟨.ptr _ _ rfl, ?_⟩⟩, upsH_of fun x hx' _ => ?_⟩
  ·simp [Nat.blt_eq]
  ·show AV.ptr (nb + 1 + 3 * i) 0 = AV.ptr (sgm [] nb (2 + 3 * i)) 0
   rw [show 2 + 3 * i = (1 + 3 * i) + 1 by omega, sg]
   congr 1
   omega
  ·obtain ⟨j, j1, j2⟩ := famH_mem hx'
   obtain ⟨i, c', i1, i2, i3, i4, _⟩ := peerL_at (b' := 2 + 3 * j) j2
   refine ⟨2 + 3 * j + i, c', ?_, ?_, ?_, i4 _ fun i hi => ?_⟩
   ·rw [i2, show 2 + 3 * j + i = (1 + 3 * j + i) + 1 by omega, sg]; omega
   ·simp [Nat.blt_eq]; omega
   ·rw [hget_cons, if_neg (fun q => by have := q.1; omega)]
    exact famH_get peerL_lot j1 i3
   ·rw [show 2 + 3 * j + i = (1 + 3 * j + i) + 1 by omega, sg]; omega
theorem made_ok (k : Nat) (hk : 2 ≤ k ∧ k ≤ 8) : SpecOK Try.prog 9 (sMade k) := by
 refine spec_ownS (by kernel_rfl) T_ok sget_nil Try.func9 rfl rfl fun args hr nb out e => ?_
 unfold sMade at e
 split at e
 ·rename_i n
  injection e with e; subst e
  refine ⟨(fun _ h => nomatch h), true, [.int .i64 (k : Nat)], rfl, fun hs => ?_⟩
  have hnk : n = (k : Nat) := hs _ List.mem_cons_self
  subst hnk
  exact ⟨.cons _ _ _ _ (.same _ _ (.int _ _)) .nil, made_sem hk fun nx hx => made_ends hk hx _⟩
 ·cases e
end Go.Eng.S25