/- Seat 25: what holds of every peer as the acts go on. Plain Lean. -/
import Derived.Test.YtodnecfgiimclaaS25DG
import Derived.Test.YtodnecfgiimclaaEngX
import Derived.Test.YtodnecfgiimclaaEngSB
import Derived.Test.YtodnecfgiimclaaS25V
set_option linter.unusedSimpArgs false
set_option linter.unusedVariables false
set_option maxHeartbeats 2000000
namespace Go.Eng.S25
open Go.Proofs Go.IntWalk
structure PI (k : Nat) (P : Peer) : Prop where
 ok : OkP P
 turn : 0 ≤ P.turn ∧ P.turn ≤ (k : Int)
 iss : 2 ≤ P.iss ∧ P.iss ≤ (k : Int) + 2
 own : ∀ x ∈ P.sets, x.1.2 = P.me → x.1.1 < P.iss
 K : OkK P
 W : OkW P
 sl : P.sets.length ≤ 255 * k
 wl : P.words.length ≤ k
theorem PI.okT {k : Nat} {P : Peer} (h : PI k P) (hk : k ≤ 1000) : okT P := ⟨⟨h.turn.1, by have := h.turn.2; omega⟩, by have := h.iss.1; omega, by have := h.iss.2; omega⟩
theorem PI.okN {k : Nat} {P : Peer} (h : PI k P) (hk : k ≤ 1000) : OkN P := ⟨by have := h.sl; omega, by have := h.wl; omega⟩
theorem PI.okR {k : Nat} {P : Peer} (h : PI k P) (hk : k ≤ 1000) : OkR P := ⟨fun x hx => (h.ok.sets x hx).2, by have := h.sl; omega, by have := h.wl; omega⟩
theorem PI.free {k : Nat} {P : Peer} (h : PI k P) : kget P.sets P.iss P.me = none := by
 cases e : kget P.sets P.iss P.me with
 | none => rfl
 | some L => exact absurd (h.own _ (kget_mem e) rfl) (Int.lt_irrefl _)
theorem PI.up {k : Nat} {P : Peer} (h : PI k P) : PI (k + 1) P :=
 ⟨h.ok, ⟨h.turn.1, by have := h.turn.2; omega⟩, ⟨h.iss.1, by have := h.iss.2; omega⟩, h.own, h.K, h.W, by have := h.sl; omega, by have := h.wl; omega⟩
theorem PI.issue {k : Nat} {P : Peer} (h : PI k P) {L : List Int} (hL : IsU L) : PI (k + 1) (issP P L) := by
 unfold issP
 cases e : issE P L.length == 0 with
 | false => exact h.up
 | true =>
   have h7 : L.length ≤ 704 := by
    have e : issE P L.length = 0 := by simpa using e
    unfold issE at e
    cases hd : decide ((L.length : Int) > 704) with
    | true => rw [hd] at e; cases e
    | false => have := of_decide_eq_false hd; omega
   rw [cond_true, kput_new h.free]
   have hm : ∀ x ∈ P.sets ++ [((P.iss, P.me), L)], x ∈ P.sets ∨ x = ((P.iss, P.me), L) := fun x hx => (List.mem_append.1 hx).imp_right List.mem_singleton.1
   refine ⟨⟨h.ok.n, h.ok.me, h.ok.hd, fun x hx => ?_, h.ok.words⟩, ⟨h.turn.1, by have := h.turn.2; show P.turn ≤ _; omega⟩, ⟨by have := h.iss.1; show 2 ≤ P.iss + 1; omega, by have := h.iss.2; show P.iss + 1 ≤ _; omega⟩, fun x hx hq => ?_, fun x hx => ?_, h.W, by have := h.sl; show (P.sets ++ _).length ≤ _; simp; omega, by have := h.wl; show P.words.length ≤ _; omega⟩
   ·rcases hm x hx with hx | rfl
    ·exact h.ok.sets x hx
    ·exact ⟨h7, hL⟩
   ·rcases hm x hx with hx | rfl
    ·have := h.own x hx hq; show x.1.1 < P.iss + 1; omega
    ·show P.iss < P.iss + 1; omega
   ·rcases hm x hx with hx | rfl
    ·exact h.K x hx
    ·exact h.iss.1
theorem PI.new {me n : Int} (hn : 2 ≤ n ∧ n ≤ 8) (hm : 0 ≤ me ∧ me < n) : PI 0 (newP me n) :=
 ⟨⟨hn, hm, fun _ _ => (by show (0 : Int) ≤ 0 ∧ (0 : Int) ≤ 4294967295; omega), fun x hx => (by cases hx), fun x hx => (by cases hx)⟩, ⟨Int.le_refl _, Int.le_refl _⟩, ⟨Int.le_refl _, by show (2 : Int) ≤ ((0 : Nat) : Int) + 2; omega⟩, fun x hx => (by cases hx), fun x hx => (by cases hx), fun x hx => (by cases hx), Nat.le_refl _, Nat.le_refl _⟩
theorem PI.advance {k : Nat} {P : Peer} (h : PI k P) : PI (k + 1) (advP P) := by
 unfold advP
 cases advK P P.n.toNat with
 | false => exact h.up
 | true => exact ⟨⟨h.ok.n, h.ok.me, h.ok.hd, h.ok.sets, h.ok.words⟩, ⟨by have := h.turn.1; show 0 ≤ P.turn + 1; omega, by have := h.turn.2; show P.turn + 1 ≤ ((k + 1 : Nat) : Int); omega⟩, ⟨h.iss.1, by have := h.iss.2; show P.iss ≤ _; omega⟩, h.own, h.K, h.W, by have := h.sl; show P.sets.length ≤ _; omega, by have := h.wl; show P.words.length ≤ _; omega⟩
theorem kput_in {α : Type} : ∀ {S : List ((Int × Int) × α)} {t p : Int} {v : α} {x : (Int × Int) × α}, x ∈ kput S t p v → x ∈ S ∨ x = ((t, p), v)
 | [], _, _, _, x, h => .inr (List.mem_singleton.1 h)
 | e :: S, t, p, v, x, h => by
   have h : x ∈ (bif t == e.1.1 && p == e.1.2 then ((t, p), v) :: S else e :: kput S t p v) := h
   cases hb : (t == e.1.1 && p == e.1.2) with
   | true =>
     rw [hb] at h
     rcases List.mem_cons.1 h with h | h
     ·exact .inr h
     ·exact .inl (List.mem_cons_of_mem _ h)
   | false =>
     rw [hb] at h
     rcases List.mem_cons.1 h with h | h
     ·exact .inl (h ▸ List.mem_cons_self)
     ·exact (kput_in h).imp_left (List.mem_cons_of_mem _)
theorem PI.note {k : Nat} {P : Peer} (h : PI k P) {w : Int} (hw : 0 ≤ w ∧ w ≤ 18446744073709551615) : PI (k + 1) (noteP P w) := by
 unfold noteP
 cases e : noteE P w == 0 with
 | false => exact h.up
 | true =>
   have e : noteE P w = 0 := by simpa using e
   have hw0 : w ≠ 0 := by
    rintro rfl
    unfold noteE at e
    cases h1 : P.turn == 0 <;> rw [h1] at e <;> simp at e
    cases h2 : (kget P.words P.turn P.me).isSome <;> rw [h2] at e <;> simp at e
   refine ⟨⟨h.ok.n, h.ok.me, h.ok.hd, h.ok.sets, fun x hx => ?_⟩, ⟨h.turn.1, by have := h.turn.2; show P.turn ≤ _; omega⟩, ⟨h.iss.1, by have := h.iss.2; show P.iss ≤ _; omega⟩, h.own, h.K, fun x hx => ?_, by have := h.sl; show P.sets.length ≤ _; omega, by have := h.wl; have := kput_len P.words P.turn P.me w; show (kput P.words P.turn P.me w).length ≤ _; omega⟩
   ·rcases kput_in hx with hx | rfl
    ·exact h.ok.words x hx
    ·exact hw
   ·rcases kput_in hx with hx | rfl
    ·exact h.W x hx
    ·exact hw0
theorem recS_in {q first : Int} {Ls : List (List Int)} {S : List ((Int × Int) × List Int)} : ∀ {k : Nat} {x : (Int × Int) × List Int}, x ∈ recS q first Ls S k → x ∈ S ∨ (x.1.2 = q ∧ 2 ≤ x.1.1 ∧ ∃ i, x.2 = Ls.getD i [])
 | 0, x, h => .inl h
 | k + 1, x, h => by
   simp only [recS] at h
   cases hk : kn (recS q first Ls S k) (first + (k : Nat)) q with
   | true => rw [hk] at h; exact recS_in h
   | false =>
     rw [hk] at h
     rcases kput_in h with h | rfl
     ·exact recS_in h
     ·refine .inr ⟨rfl, ?_, k, rfl⟩
      unfold kn at hk
      simp only [Bool.or_eq_false_iff, decide_eq_false_iff_not] at hk
      show 2 ≤ first + (k : Int)
      omega
theorem PI.recv {k : Nat} {P : Peer} (h : PI k P) {L : List Int} (hL : IsU L) : PI (k + 1) (recP P L) := by
 obtain ⟨c1, c2⟩ := cutF_ok hL
 unfold recP
 cases e : recE P L == 0 with
 | false => exact h.up
 | true =>
   have e : recE P L = 0 := by simpa using e
   have hq : mFrom L ≠ P.me := by
    intro hq
    unfold recE at e
    cases h1 : (cutF L).2 != 0 with
    | true => rw [h1] at e; simp at h1; exact h1 e
    | false => rw [h1, hq] at e; simp at e
   have t2 : 0 ≤ mTurn L ∧ mTurn L < 4294967296 := mNum_rng hL 2 4
   have t3 : 0 ≤ mWord L ∧ mWord L < 256 ^ 8 := mNum_rng hL 6 8
   have hw8 : (256 : Int) ^ 8 = 18446744073709551616 := by decide
   have hS : ∀ x ∈ recS (mFrom L) (mFirst L) (cutF L).1 P.sets (cutF L).1.length, x ∈ P.sets ∨ (x.1.2 = mFrom L ∧ 2 ≤ x.1.1 ∧ ∃ i, x.2 = (cutF L).1.getD i []) := fun x hx => recS_in hx
   have hWd : ∀ x ∈ recW P L, x ∈ P.words ∨ (x.2 = mWord L ∧ mWord L ≠ 0) := fun x hx => by
    unfold recW at hx
    cases hb : (!(kget P.words (mTurn L) (mFrom L)).isSome && decide (mTurn L > 0) && (mWord L != 0)) with
    | false => rw [hb] at hx; exact .inl hx
    | true =>
      rw [hb] at hx
      simp only [Bool.and_eq_true, bne_iff_ne] at hb
      rcases kput_in hx with hx | rfl
      ·exact .inl hx
      ·exact .inr ⟨rfl, hb.2⟩
   have hWl : (recW P L).length ≤ P.words.length + 1 := by
    unfold recW
    cases (!(kget P.words (mTurn L) (mFrom L)).isSome && decide (mTurn L > 0) && (mWord L != 0)) with
    | false => exact Nat.le_succ _
    | true => exact kput_len _ _ _ _
   have hSl := recS_len (mFrom L) (mFirst L) (cutF L).1 P.sets (cutF L).1.length
   refine ⟨⟨h.ok.n, h.ok.me, fun i hi => ?_, fun x hx => ?_, fun x hx => ?_⟩, ⟨h.turn.1, by have := h.turn.2; show P.turn ≤ ((k + 1 : Nat) : Int); omega⟩, ⟨h.iss.1, by have := h.iss.2; show P.iss ≤ ((k + 1 : Nat) : Int) + 2; omega⟩, fun x hx hm => ?_, fun x hx => ?_, fun x hx => ?_, ?_, ?_⟩
   ·have h0 := h.ok.hd i hi
    show 0 ≤ (bif i == (mFrom L).toNat then mx2 (P.hd i) (mTurn L) else P.hd i) ∧ (bif i == (mFrom L).toNat then mx2 (P.hd i) (mTurn L) else P.hd i) ≤ 4294967295
    cases i == (mFrom L).toNat with
    | false => exact h0
    | true =>
      show 0 ≤ mx2 (P.hd i) (mTurn L) ∧ mx2 (P.hd i) (mTurn L) ≤ 4294967295
      unfold mx2
      split <;> omega
   ·rcases hS x hx with h1 | ⟨_, _, i, h1⟩
    ·exact h.ok.sets x h1
    ·rw [h1]
     rcases Nat.lt_or_ge i (cutF L).1.length with h2 | h2
     ·rw [List.getD_eq_getElem?_getD, List.getElem?_eq_getElem h2]; exact c1 _ (List.getElem_mem h2)
     ·rw [List.getD_eq_getElem?_getD, List.getElem?_eq_none h2]; exact ⟨Nat.zero_le _, fun y hy => by cases hy⟩
   ·rcases hWd x hx with h1 | ⟨h1, _⟩
    ·exact h.ok.words x h1
    ·rw [h1]; omega
   ·rcases hS x hx with h1 | ⟨h1, _⟩
    ·exact h.own x h1 hm
    ·exact absurd (h1.symm.trans hm) hq
   ·rcases hS x hx with h1 | ⟨_, h1, _⟩
    ·exact h.K x h1
    ·exact h1
   ·rcases hWd x hx with h1 | ⟨h1, h2⟩
    ·exact h.W x h1
    ·rw [h1]; exact h2
   ·have := h.sl
    show (recS (mFrom L) (mFirst L) (cutF L).1 P.sets (cutF L).1.length).length ≤ 255 * (k + 1)
    omega
   ·have := h.wl
    show (recW P L).length ≤ k + 1
    omega
end Go.Eng.S25
/- Seat 25: a peer of the program and one of the document, in a pair. -/
set_option linter.unusedSimpArgs false
set_option linter.unusedVariables false
set_option maxHeartbeats 2000000
namespace Go.Eng.S25
open Go.Proofs Go.IntWalk
set_option maxRecDepth 10000
def pairL (b : Nat) (P : Peer) : Heap := pcon b (b + 1) (b + 2) P ++ rcon (b + 3) (b + 4) (b + 5) P
theorem cw_rs (S : List ((Int × Int) × List Int)) {π : Nat → Nat} : CW π (.vec 3 81 S.length (rsF S)) (.vec 3 81 S.length (rsF S)) := ⟨rfl, rfl, rfl, fun _ _ => rfl⟩
theorem cw_rw (W : List ((Int × Int) × Int)) {π : Nat → Nat} : CW π (.vec 3 89 W.length (rwF W)) (.vec 3 89 W.length (rwF W)) := ⟨rfl, rfl, rfl, fun _ _ => rfl⟩
theorem ne_add (b i j : Nat) (h : i ≠ j) : (b + i == b + j) = false := beq_eq_false_iff_ne.2 (by omega)
theorem ne_add0 (b j : Nat) (h : 0 ≠ j) : (b == b + j) = false := beq_eq_false_iff_ne.2 (by omega)
theorem pairL_lot : Lot 6 pairL := by
 refine ⟨fun b P e he => ?_, fun b b' P m o c' e => ?_⟩
 ·simp only [pairL, pcon, rcon, List.cons_append, List.nil_append, List.mem_cons, List.not_mem_nil, or_false] at he
  rcases he with rfl | rfl | rfl | rfl | rfl | rfl | rfl | rfl | rfl | rfl | rfl | rfl | rfl | rfl | rfl | rfl | rfl | rfl | rfl | rfl <;> simp <;> omega
 ·have he := hget_in e
  clear e
  simp only [pairL, pcon, rcon, List.cons_append, List.nil_append, List.mem_cons, List.not_mem_nil, or_false, Prod.mk.injEq] at he
  rcases he with ⟨rfl, rfl, rfl⟩ | ⟨rfl, rfl, rfl⟩ | ⟨rfl, rfl, rfl⟩ | ⟨rfl, rfl, rfl⟩ | ⟨rfl, rfl, rfl⟩ | ⟨rfl, rfl, rfl⟩ | ⟨rfl, rfl, rfl⟩ | ⟨rfl, rfl, rfl⟩ | ⟨rfl, rfl, rfl⟩ | ⟨rfl, rfl, rfl⟩ | ⟨rfl, rfl, rfl⟩ | ⟨rfl, rfl, rfl⟩ | ⟨rfl, rfl, rfl⟩ | ⟨rfl, rfl, rfl⟩ | ⟨rfl, rfl, rfl⟩ | ⟨rfl, rfl, rfl⟩ | ⟨rfl, rfl, rfl⟩ | ⟨rfl, rfl, rfl⟩ | ⟨rfl, rfl, rfl⟩ | ⟨rfl, rfl, rfl⟩
  ·refine ⟨.cell (.int .i64 P.me), ?_, fun _ _ => rfl⟩
   rw [show m - m + b = b by omega]
   simp [pairL, pcon, rcon, hget, ne_add, ne_add0]
  ·refine ⟨.cell (.int .i64 P.n), ?_, fun _ _ => rfl⟩
   rw [show m - m + b = b by omega]
   simp [pairL, pcon, rcon, hget, ne_add, ne_add0]
  ·refine ⟨.cell (.int .i64 P.turn), ?_, fun _ _ => rfl⟩
   rw [show m - m + b = b by omega]
   simp [pairL, pcon, rcon, hget, ne_add, ne_add0]
  ·refine ⟨.cell (.int .i64 P.iss), ?_, fun _ _ => rfl⟩
   rw [show m - m + b = b by omega]
   simp [pairL, pcon, rcon, hget, ne_add, ne_add0]
  ·refine ⟨.arr 8 (nI P.hd), ?_, fun _ _ => ⟨rfl, fun _ _ => rfl⟩⟩
   rw [show m - m + b = b by omega]
   simp [pairL, pcon, rcon, hget, ne_add, ne_add0]
  ·refine ⟨.cell (.mp (b + 1)), ?_, fun π h => by show AV.mp _ = AV.mp _; rw [h 1 (by decide)]⟩
   rw [show m - m + b = b by omega]
   simp [pairL, pcon, rcon, hget, ne_add, ne_add0]
  ·refine ⟨.cell (.mp (b + 2)), ?_, fun π h => by show AV.mp _ = AV.mp _; rw [h 2 (by decide)]⟩
   rw [show m - m + b = b by omega]
   simp [pairL, pcon, rcon, hget, ne_add, ne_add0]
  ·refine ⟨.top, ?_, fun _ _ => trivial⟩
   rw [show m - m + b = b by omega]
   simp [pairL, pcon, rcon, hget, ne_add, ne_add0]
  ·refine ⟨.map 2 (smap P.sets), ?_, fun _ _ => cw_smap _⟩
   rw [show b' + 1 - b' + b = b + 1 by omega]
   simp [pairL, pcon, rcon, hget, ne_add, ne_add0]
  ·refine ⟨.map 2 (wmap P.words), ?_, fun _ _ => cw_map (flat_wmap _)⟩
   rw [show b' + 2 - b' + b = b + 2 by omega]
   simp [pairL, pcon, rcon, hget, ne_add, ne_add0]
  ·refine ⟨.cell (.int .i64 P.me), ?_, fun _ _ => rfl⟩
   rw [show b' + 3 - b' + b = b + 3 by omega]
   simp [pairL, pcon, rcon, hget, ne_add, ne_add0]
  ·refine ⟨.cell (.int .i64 P.n), ?_, fun _ _ => rfl⟩
   rw [show b' + 3 - b' + b = b + 3 by omega]
   simp [pairL, pcon, rcon, hget, ne_add, ne_add0]
  ·refine ⟨.cell (.int .i64 P.turn), ?_, fun _ _ => rfl⟩
   rw [show b' + 3 - b' + b = b + 3 by omega]
   simp [pairL, pcon, rcon, hget, ne_add, ne_add0]
  ·refine ⟨.cell (.int .i64 P.iss), ?_, fun _ _ => rfl⟩
   rw [show b' + 3 - b' + b = b + 3 by omega]
   simp [pairL, pcon, rcon, hget, ne_add, ne_add0]
  ·refine ⟨.arr 8 (nI P.hd), ?_, fun _ _ => ⟨rfl, fun _ _ => rfl⟩⟩
   rw [show b' + 3 - b' + b = b + 3 by omega]
   simp [pairL, pcon, rcon, hget, ne_add, ne_add0]
  ·refine ⟨.cell (.vs (b + 4)), ?_, fun π h => by show AV.vs _ = AV.vs _; rw [h 4 (by decide)]⟩
   rw [show b' + 3 - b' + b = b + 3 by omega]
   simp [pairL, pcon, rcon, hget, ne_add, ne_add0]
  ·refine ⟨.cell (.vs (b + 5)), ?_, fun π h => by show AV.vs _ = AV.vs _; rw [h 5 (by decide)]⟩
   rw [show b' + 3 - b' + b = b + 3 by omega]
   simp [pairL, pcon, rcon, hget, ne_add, ne_add0]
  ·refine ⟨.top, ?_, fun _ _ => trivial⟩
   rw [show b' + 3 - b' + b = b + 3 by omega]
   simp [pairL, pcon, rcon, hget, ne_add, ne_add0]
  ·refine ⟨.vec 3 81 P.sets.length (rsF P.sets), ?_, fun _ _ => cw_rs _⟩
   rw [show b' + 4 - b' + b = b + 4 by omega]
   simp [pairL, pcon, rcon, hget, ne_add, ne_add0]
  ·refine ⟨.vec 3 89 P.words.length (rwF P.words), ?_, fun _ _ => cw_rw _⟩
   rw [show b' + 5 - b' + b = b + 5 by omega]
   simp [pairL, pcon, rcon, hget, ne_add, ne_add0]
theorem flat_low {B : Nat} {v : AV} (h : Flat v) : Low B v := by
 induction h with
 | int k n => exact .int k n
 | bool b => exact .bool b
 | str s => exact .str s
 | nilp => exact .nilp
 | nils => exact .nils
 | nilm => exact .nilm
 | nilf => exact .nilf
 | agg cs t ih => exact .agg cs ih
 | tup cs t ih => exact .tup cs ih
 | arr n f t ih => exact .arr n f fun i _ => ih i
theorem pairL_low {B b : Nat} (h : b + 5 < B) (P : Peer) : ∀ e ∈ pairL b P, ContLow B e.2.2 := by
 intro e he
 simp only [pairL, pcon, rcon, List.cons_append, List.nil_append, List.mem_cons, List.not_mem_nil, or_false] at he
 rcases he with rfl | rfl | rfl | rfl | rfl | rfl | rfl | rfl | rfl | rfl | rfl | rfl | rfl | rfl | rfl | rfl | rfl | rfl | rfl | rfl
 ·exact .int _ _
 ·exact .int _ _
 ·exact .int _ _
 ·exact .int _ _
 ·exact fun i _ => .int _ _
 ·exact .mp _ (by omega)
 ·exact .mp _ (by omega)
 ·trivial
 ·intro x hx
  simp only [smap, List.mem_map] at hx
  obtain ⟨y, _, rfl⟩ := hx
  exact .rs _ _ _ _ fun i _ => .int _ _
 ·intro x hx
  simp only [wmap, List.mem_map] at hx
  obtain ⟨y, _, rfl⟩ := hx
  exact .int _ _
 ·exact .int _ _
 ·exact .int _ _
 ·exact .int _ _
 ·exact .int _ _
 ·exact fun i _ => .int _ _
 ·exact .vs _ (by omega)
 ·exact .vs _ (by omega)
 ·trivial
 ·exact fun i _ => flat_low (rsF_flat _ i)
 ·exact fun i _ => flat_low (rwF_flat _ i)
end Go.Eng.S25