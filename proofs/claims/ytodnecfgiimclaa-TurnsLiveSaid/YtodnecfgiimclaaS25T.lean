/- Seat 25: two peers, in step or not. Plain Lean. -/
import Derived.Test.YtodnecfgiimclaaS25S
set_option linter.unusedSimpArgs false
set_option linter.unusedVariables false
namespace Go.Eng.S25
theorem issP_eq {P : Peer} {L : List Int} (h : issE P L.length = 0) : issP P L = ⟨P.me, P.n, P.turn, P.iss + 1, P.hd, kput P.sets P.iss P.me L, P.words⟩ := by unfold issP; rw [h]; rfl
theorem recP_eq {P : Peer} {L : List Int} (h : recE P L = 0) : recP P L = ⟨P.me, P.n, P.turn, P.iss, recH P L, recS (mFrom L) (mFirst L) (cutF L).1 P.sets (cutF L).1.length, recW P L⟩ := by unfold recP; rw [h]; rfl
theorem noteP_eq {P : Peer} {w : Int} (h : noteE P w = 0) : noteP P w = ⟨P.me, P.n, P.turn, P.iss, P.hd, P.sets, kput P.words P.turn P.me w⟩ := by unfold noteP; rw [h]; rfl
/-- What one of two peers is, as far as it goes. -/
structure Vw (P : Peer) (me t i h : Int) (K : Int → Int → Bool) (W : Int → Int → Option Int) : Prop where
  ok : OkP P
  pm : P.me = me
  pn : P.n = 2
  pt : P.turn = t
  pi : P.iss = i
  ph : P.hd (1 - me).toNat = h
  kn : KN P.words
  sets : ∀ j q, (kget P.sets j q).isSome = K j q
  words : ∀ j q, kget P.words j q = W j q
variable {P Q : Peer} {me t i h t' i' h' : Int} {K K' : Int → Int → Bool} {W W' : Int → Int → Option Int}
theorem Vw.iss (V : Vw P me t i h K W) (hi : i < t + 8) : issE P 0 = 0 ∧ Vw (issP P []) me t (i + 1) h (fun j q => (j == i && q == me) || K j q) W := by
  have e : issE P 0 = 0 := by
    unfold issE
    rw [decide_eq_false (by omega), decide_eq_false (by rw [V.pi, V.pt]; omega)]
    rfl
  refine ⟨e, ?_⟩
  have hok := issP_ok (L := []) V.ok (fun x hx => by cases hx)
  rw [issP_eq (L := []) e] at hok ⊢
  refine ⟨hok, V.pm, V.pn, V.pt, by show P.iss + 1 = _; rw [V.pi], V.ph, V.kn, fun j q => ?_, V.words⟩
  show (kget (kput P.sets P.iss P.me []) j q).isSome = _
  rw [kget_kput, V.pi, V.pm]
  cases j == i && q == me with
  | true => rfl
  | false => exact V.sets j q
theorem Vw.send (V : Vw P me t i h K W) (hm : me = 0 ∨ me = 1) (hi : i - h ≤ 255) : sendE P (1 - me) = 0 := by
  refine sendE_ok ⟨by omega, by rw [V.pn]; omega⟩ (by rw [V.pm]; omega) ?_
  rw [V.pi, V.ph]; exact hi
theorem Vw.recv (V : Vw P me t i h K W) (U : Vw Q (1 - me) t' i' h' K' W') (hm : me = 0 ∨ me = 1) (ht : 0 ≤ t' ∧ t' ≤ 1000000) (hi : i' - h' ≤ 255) (hf : i' ≤ t + 16) :
    recE P (sendB Q me) = 0 ∧ Vw (recP P (sendB Q me)) me t i (mx2 h t') (fun j q => (q == 1 - me && decide (h' ≤ j) && decide (j < i') && decide (2 ≤ j)) || K j q)
      (fun j q => bif j == t' && q == 1 - me && (!(W t' (1 - me)).isSome && decide (t' > 0) && ((W' t' (1 - me)).getD 0 != 0)) then some ((W' t' (1 - me)).getD 0) else W j q) := by
  have hmm : 1 - (1 - me) = me := by omega
  have hs : sendE Q me = 0 := by have := U.send (by omega) hi; rwa [hmm] at this
  have hT : 0 ≤ Q.turn ∧ Q.turn ≤ 1000000 := by rw [U.pt]; exact ht
  have e : recE P (sendB Q me) = 0 := by
    have := rec_send (P := Q) (Q := P) U.ok V.ok hT (by rw [U.pn, V.pn]) (by rw [V.pm]; exact hs) (by rw [U.pm, V.pm]; omega) (by rw [U.pi, V.pt]; exact hf)
    rwa [V.pm] at this
  obtain ⟨e1, e2, e3, e4, e5, e6⟩ := send_parts U.ok hT hs
  have hU : IsU (sendB Q me) := by
    unfold sendB
    rw [hs]
    have ho : otherB Q me = true := by
      unfold sendE at hs
      cases ho : otherB Q me with
      | true => rfl
      | false => rw [ho] at hs; cases hs
    have hc : cntOf Q me ≤ 255 := by
      unfold sendE at hs
      rw [ho] at hs
      by_cases hc : cntOf Q me ≤ 255
      · exact hc
      · rw [decide_eq_true (by omega : cntOf Q me > 255)] at hs; cases hs
    exact isU_app (headB_ok U.ok ho hc).2 (setsB_ok U.ok _ _).2
  refine ⟨e, ?_⟩
  have hok := recP_ok V.ok hU
  rw [recP_eq e] at hok ⊢
  refine ⟨hok, V.pm, V.pn, V.pt, V.pi, ?_, recW_kn _ V.kn, fun j q => ?_, fun j q => ?_⟩
  · show recH P (sendB Q me) (1 - me).toNat = _
    unfold recH
    rw [e2, U.pm, e4, U.pt, V.ph]
    simp
  · show (kget (recS (mFrom (sendB Q me)) (mFirst (sendB Q me)) (cutF (sendB Q me)).1 P.sets (cutF (sendB Q me)).1.length) j q).isSome = _
    have hh : Q.hd me.toNat = h' := by have := U.ph; rwa [hmm] at this
    rw [recS_get, e1, e2, e6, U.pm, setsL_len, cnt_iss, hh]
    have hc : cntOf Q me = mx2 0 (i' - h') := by unfold cntOf; rw [U.pi, hh]
    have hk : Go.Eng.S25.kn P.sets j (1 - me) = (decide (j < 2) || K j (1 - me)) := by unfold Go.Eng.S25.kn; rw [V.sets]
    rw [hk]
    by_cases hq : q = 1 - me
    · subst hq
      have hr : decide (j < h' + cntOf Q me) = (decide (j < i') || decide (j < h')) := by
        rw [hc]
        unfold mx2
        by_cases a : j < i' <;> by_cases b : j < h' <;> simp [a, b] <;> split <;> omega
      rw [hr]
      by_cases a : h' ≤ j
      · rw [decide_eq_true a, decide_eq_false (by omega : ¬ j < h')]
        by_cases b : j < i'
        · rw [decide_eq_true b]
          by_cases c : j < 2
          · rw [decide_eq_true c, decide_eq_false (by omega : ¬ 2 ≤ j)]
            simp [V.sets]
          · rw [decide_eq_false c, decide_eq_true (by omega : 2 ≤ j)]
            cases hK : K j (1 - me) with
            | true => simp [V.sets, hK]
            | false => simp
        · rw [decide_eq_false b]
          simp [V.sets]
      · rw [decide_eq_false a]
        simp [V.sets]
    · have : (q == 1 - me) = false := by simpa using hq
      rw [this]
      simp [V.sets]
  · show kget (recW P (sendB Q me)) j q = _
    have hw : wordOf Q t' = (W' t' (1 - me)).getD 0 := by unfold wordOf; rw [U.words, U.pm]
    rw [recW_get, e2, e4, e5, U.pm, U.pt, hw, V.words, V.words]
theorem Vw.adv (V : Vw P me t i h K W) (hk : t < 2 ∨ (K t 0 = true ∧ K t 1 = true)) : advE P = 0 ∧ Vw (advP P) me (t + 1) i h K W := by
  have e : advK P P.n.toNat = true := by
    rw [V.pn]
    show ((true && knownB P P.turn ((0 : Nat) : Int)) && knownB P P.turn ((1 : Nat) : Int)) = true
    unfold knownB
    rw [V.sets, V.sets, V.pt]
    rcases hk with hk | ⟨h1, h2⟩
    · rw [decide_eq_true hk]; rfl
    · rw [show K t ((0 : Nat) : Int) = true from h1, show K t ((1 : Nat) : Int) = true from h2]; simp
  refine ⟨by unfold advE; rw [e]; rfl, ?_⟩
  have hok := advP_ok V.ok
  unfold advP at hok ⊢
  rw [e] at hok ⊢
  exact ⟨hok, V.pm, V.pn, by show P.turn + 1 = _; rw [V.pt], V.pi, V.ph, V.kn, V.sets, V.words⟩
theorem Vw.note (V : Vw P me t i h K W) {w : Int} (ht : 0 < t) (hw : W t me = none) (hr : 0 < w ∧ w ≤ 18446744073709551615) : noteE P w = 0 ∧ Vw (noteP P w) me t i h K (fun j q => bif j == t && q == me then some w else W j q) := by
  have e : noteE P w = 0 := by
    unfold noteE
    rw [V.words, V.pt, V.pm, hw, show (t == 0) = false by simp; omega, show (w == 0) = false by simp; omega]
    rfl
  refine ⟨e, ?_⟩
  have hok := noteP_ok (w := w) V.ok (by omega)
  rw [noteP_eq e] at hok ⊢
  refine ⟨hok, V.pm, V.pn, V.pt, V.pi, V.ph, V.kn.put, V.sets, fun j q => ?_⟩
  show kget (kput P.words P.turn P.me w) j q = _
  rw [kget_kput, V.pt, V.pm, V.words]
theorem Vw.congr {K2 : Int → Int → Bool} {W2 : Int → Int → Option Int} (V : Vw P me t i h K W) (hK : ∀ j q, K j q = K2 j q) (hW : ∀ j q, W j q = W2 j q) : Vw P me t i h K2 W2 :=
  ⟨V.ok, V.pm, V.pn, V.pt, V.pi, V.ph, V.kn, fun j q => (V.sets j q).trans (hK j q), fun j q => (V.words j q).trans (hW j q)⟩
theorem Vw.okT (V : Vw P me t i h K W) (h1 : 0 ≤ t ∧ t ≤ 1000000) (h2 : 0 ≤ i ∧ i ≤ 1000000) : okT P := by
  unfold Go.Eng.S25.okT
  rw [V.pt, V.pi]
  exact ⟨h1, h2.1, h2.2⟩
/-- The words that the two know behind t rounds: each its own, the first one's all, the second one's but the last. -/
def wdP (wf vf : Int → Int) (t : Int) (j q : Int) : Option Int := bif decide (1 ≤ j) && decide (j ≤ t) && q == 0 then some (wf j) else bif decide (1 ≤ j) && decide (j < t) && q == 1 then some (vf j) else none
def wdQ (wf vf : Int → Int) (t : Int) (j q : Int) : Option Int := bif decide (1 ≤ j) && decide (j ≤ t) && q == 0 then some (wf j) else bif decide (1 ≤ j) && decide (j ≤ t) && q == 1 then some (vf j) else none
def TellI (wf vf : Int → Int) (t : Int) (P Q : Peer) : Prop := ∃ hp hq Kp Kq, Vw P 0 t (t + 2) hp Kp (wdP wf vf t) ∧ Vw Q 1 t (t + 2) hq Kq (wdQ wf vf t) ∧ hp ≤ t ∧ hq ≤ t ∧ (∀ j q, 2 ≤ j → j < t + 2 → q = 0 ∨ q = 1 → Kp j q = true ∧ Kq j q = true)
theorem tell_start (wf vf : Int → Int) : TellI wf vf 0 (newP 0 2) (newP 1 2) := by
  have ok : ∀ me : Int, me = 0 ∨ me = 1 → OkP (newP me 2) := fun me hm => ⟨⟨by show (2 : Int) ≤ 2; omega, by show (2 : Int) ≤ 8; omega⟩, ⟨by show 0 ≤ me; omega, by show me < 2; omega⟩, fun i hi => ⟨by show (0 : Int) ≤ 0; omega, by show (0 : Int) ≤ _; omega⟩, fun x hx => (by cases hx), fun x hx => by cases hx⟩
  have w0 : ∀ j q, none = wdP wf vf 0 j q := fun j q => by
    unfold wdP
    by_cases a : 1 ≤ j
    · rw [decide_eq_false (by omega : ¬ j ≤ 0), decide_eq_false (by omega : ¬ j < 0)]; simp
    · rw [decide_eq_false a]; simp
  have w1 : ∀ j q, none = wdQ wf vf 0 j q := fun j q => by
    unfold wdQ
    by_cases a : 1 ≤ j
    · rw [decide_eq_false (by omega : ¬ j ≤ 0)]; simp
    · rw [decide_eq_false a]; simp
  exact ⟨0, 0, fun _ _ => false, fun _ _ => false, ⟨ok 0 (.inl rfl), rfl, rfl, rfl, rfl, rfl, List.nodup_nil, fun _ _ => rfl, w0⟩, ⟨ok 1 (.inr rfl), rfl, rfl, rfl, rfl, rfl, List.nodup_nil, fun _ _ => rfl, w1⟩, by omega, by omega, fun j q h1 h2 => by omega⟩
/-- One round. -/
structure TellF (wf vf : Int → Int) (t : Int) (P Q P1 Q1 P2 Q2 P3 Q3 P4 Q4 Q5 : Peer) : Prop where
  t1 : okT P ∧ okT Q
  s1 : (okT P1 ∧ OkP P1) ∧ okT Q1 ∧ OkP Q1
  e1 : sendE P1 1 = 0 ∧ sendE Q1 0 = 0
  u1 : IsU (sendB P1 1) ∧ IsU (sendB Q1 0)
  l1 : (sendB P1 1).length ≤ 100000000 ∧ (sendB Q1 0).length ≤ 100000000
  e2 : recE Q1 (sendB P1 1) = 0 ∧ recE P1 (sendB Q1 0) = 0
  s2 : (okT P2 ∧ OkP P2) ∧ okT Q2 ∧ OkP Q2
  e3 : advE P2 = 0 ∧ advE Q2 = 0
  e4 : noteE P3 (wf (t + 1)) = 0 ∧ noteE Q3 (vf (t + 1)) = 0
  s4 : (okT P4 ∧ OkP P4) ∧ okT Q4 ∧ OkP Q4
  e5 : sendE P4 1 = 0 ∧ recE Q4 (sendB P4 1) = 0
  u5 : IsU (sendB P4 1) ∧ (sendB P4 1).length ≤ 100000000
  dQ : desB Q5 = true ↔ ∃ j, 1 ≤ j ∧ j ≤ t + 1 ∧ vf j ≠ wf j
  dP : desB P4 = true → ∃ j, 1 ≤ j ∧ j ≤ t + 1 ∧ vf j ≠ wf j
  nx : TellI wf vf (t + 1) P4 Q5
theorem sendB_ok {P : Peer} (h : OkP P) {to : Int} (hs : sendE P to = 0) : IsU (sendB P to) ∧ (sendB P to).length ≤ 100000000 := by
  have ho : otherB P to = true := by
    unfold sendE at hs
    cases ho : otherB P to with
    | true => rfl
    | false => rw [ho] at hs; cases hs
  have hc : cntOf P to ≤ 255 := by
    unfold sendE at hs
    rw [ho] at hs
    by_cases hc : cntOf P to ≤ 255
    · exact hc
    · rw [decide_eq_true (by omega : cntOf P to > 255)] at hs; cases hs
  have h1 := headB_ok h ho hc
  have h2 := setsB_ok h (cntOf P to).toNat (P.hd to.toNat)
  unfold sendB
  rw [hs]
  refine ⟨isU_app h1.2 h2.2, ?_⟩
  simp only [beq_self_eq_true, cond_true, List.length_append]
  omega
theorem tell_step {wf vf : Int → Int} (hwf : ∀ j, 0 < wf j ∧ wf j ≤ 18446744073709551615) (hvf : ∀ j, 0 < vf j ∧ vf j ≤ 18446744073709551615) {t : Int} (ht : 0 ≤ t ∧ t < 40) {P Q : Peer} (hI : TellI wf vf t P Q) :
    TellF wf vf t P Q (issP P []) (issP Q []) (recP (issP P []) (sendB (issP Q []) 0)) (recP (issP Q []) (sendB (issP P []) 1)) (advP (recP (issP P []) (sendB (issP Q []) 0))) (advP (recP (issP Q []) (sendB (issP P []) 1)))
      (noteP (advP (recP (issP P []) (sendB (issP Q []) 0))) (wf (t + 1))) (noteP (advP (recP (issP Q []) (sendB (issP P []) 1))) (vf (t + 1)))
      (recP (noteP (advP (recP (issP Q []) (sendB (issP P []) 1))) (vf (t + 1))) (sendB (noteP (advP (recP (issP P []) (sendB (issP Q []) 0))) (wf (t + 1))) 1)) := by
  obtain ⟨hp, hq, Kp, Kq, V, U, hp1, hq1, hK⟩ := hI
  have hp0 : 0 ≤ hp := by rw [← V.ph]; exact (V.ok.hd _ (by decide)).1
  have hq0 : 0 ≤ hq := by rw [← U.ph]; exact (U.ok.hd _ (by decide)).1
  obtain ⟨_, V1⟩ := V.iss (by omega)
  obtain ⟨_, U1⟩ := U.iss (by omega)
  have tV := V.okT (by omega) (by omega)
  have tU := U.okT (by omega) (by omega)
  have tV1 := V1.okT (by omega) (by omega)
  have tU1 := U1.okT (by omega) (by omega)
  have sV1 : sendE (issP P []) 1 = 0 := V1.send (.inl rfl) (by omega)
  have sU1 : sendE (issP Q []) 0 = 0 := U1.send (.inr rfl) (by omega)
  obtain ⟨rV, V2⟩ := V1.recv U1 (.inl rfl) (by omega) (by omega) (by omega)
  obtain ⟨rU, U2⟩ := U1.recv V1 (.inr rfl) (by omega) (by omega) (by omega)
  have tV2 := V2.okT (by omega) (by omega)
  have tU2 := U2.okT (by omega) (by omega)
  have kk : ∀ q : Int, q = 0 ∨ q = 1 → t < 2 ∨ (Kp t q = true ∧ Kq t q = true) := fun q hq => by
    by_cases h2 : t < 2
    · exact .inl h2
    · exact .inr (hK t q (by omega) (by omega) hq)
  obtain ⟨aV, V3⟩ := V2.adv (by
    rcases kk 0 (.inl rfl) with h | h
    · exact .inl h
    · rcases kk 1 (.inr rfl) with h2 | h2
      · exact .inl h2
      · exact .inr ⟨by simp [h.1], by simp [h2.1]⟩)
  obtain ⟨aU, U3⟩ := U2.adv (by
    rcases kk 0 (.inl rfl) with h | h
    · exact .inl h
    · rcases kk 1 (.inr rfl) with h2 | h2
      · exact .inl h2
      · exact .inr ⟨by simp [h.2], by simp [h2.2]⟩)
  have nV0 : wdP wf vf t (t + 1) 0 = none := by
    unfold wdP
    rw [decide_eq_false (by omega : ¬ t + 1 ≤ t), decide_eq_false (by omega : ¬ t + 1 < t)]
    simp
  have nU1 : wdQ wf vf t (t + 1) 1 = none := by
    unfold wdQ
    rw [decide_eq_false (by omega : ¬ t + 1 ≤ t)]
    simp
  have nU0 : wdQ wf vf t (t + 1) 0 = none := by
    unfold wdQ
    rw [decide_eq_false (by omega : ¬ t + 1 ≤ t)]
    simp
  have nP1 : wdP wf vf t t 1 = none := by
    unfold wdP
    rw [decide_eq_false (by omega : ¬ t < t)]
    simp
  -- the second one's word for this turn comes to the first one
  have hW3 : ∀ j q, (bif j == t && q == 1 && (!(wdP wf vf t t 1).isSome && decide (t > 0) && ((wdQ wf vf t t 1).getD 0 != 0)) then some ((wdQ wf vf t t 1).getD 0) else wdP wf vf t j q) = wdQ wf vf t j q := by
    intro j q
    rw [nP1]
    by_cases h0 : 0 < t
    · have e1 : wdQ wf vf t t 1 = some (vf t) := by
        unfold wdQ
        rw [decide_eq_true (by omega : 1 ≤ t), decide_eq_true (by omega : t ≤ t)]
        rfl
      have e2 : (vf t != 0) = true := by have := hvf t; simp; omega
      rw [e1, decide_eq_true (by omega : t > 0)]
      simp only [Option.isSome_none, Option.getD_some, Bool.not_false, Bool.true_and, e2, Bool.and_true]
      by_cases hjq : j = t ∧ q = 1
      · obtain ⟨rfl, rfl⟩ := hjq
        rw [e1]; simp
      · have : (j == t && q == 1) = false := by
          cases h : (j == t && q == 1) with
          | false => rfl
          | true => simp only [Bool.and_eq_true, beq_iff_eq] at h; exact absurd h hjq
        rw [this]
        unfold wdP wdQ
        simp only [cond_false]
        by_cases hq : q = 1
        · have hj : j ≠ t := fun h => hjq ⟨h, hq⟩
          have : decide (j < t) = decide (j ≤ t) := by
            by_cases a : j < t
            · rw [decide_eq_true a, decide_eq_true (by omega)]
            · rw [decide_eq_false a, decide_eq_false (by omega)]
          rw [this]
        · have : (q == 1) = false := by simpa using hq
          rw [this]; simp
    · have h1 : t = 0 := by omega
      subst h1
      simp only [gt_iff_lt, Int.lt_irrefl, decide_false, Bool.and_false, Bool.false_and, cond_false]
      unfold wdP wdQ
      by_cases a : 1 ≤ j
      · rw [decide_eq_false (by omega : ¬ j ≤ 0), decide_eq_false (by omega : ¬ j < 0)]
      · rw [decide_eq_false a]; simp
  have hU3 : ∀ j q, (bif j == t && q == 0 && (!(wdQ wf vf t t 0).isSome && decide (t > 0) && ((wdP wf vf t t 0).getD 0 != 0)) then some ((wdP wf vf t t 0).getD 0) else wdQ wf vf t j q) = wdQ wf vf t j q := by
    intro j q
    by_cases h0 : 0 < t
    · have e1 : wdQ wf vf t t 0 = some (wf t) := by
        unfold wdQ
        rw [decide_eq_true (by omega : 1 ≤ t), decide_eq_true (by omega : t ≤ t)]
        rfl
      rw [e1]; simp
    · rw [decide_eq_false (by omega : ¬ t > 0)]; simp
  have V3 := V3.congr (fun _ _ => rfl) hW3
  have U3 := U3.congr (fun _ _ => rfl) hU3
  obtain ⟨nV, V4⟩ := V3.note (w := wf (t + 1)) (by omega) nU0 (hwf _)
  obtain ⟨nU, U4⟩ := U3.note (w := vf (t + 1)) (by omega) nU1 (hvf _)
  have tV4 := V4.okT (by omega) (by omega)
  have tU4 := U4.okT (by omega) (by omega)
  have hmp : mx2 hp t = t := by unfold mx2; split <;> omega
  have hmq : mx2 hq t = t := by unfold mx2; split <;> omega
  have sV4 := V4.send (.inl rfl) (by rw [hmp]; omega)
  obtain ⟨rU5, U5⟩ := U4.recv V4 (.inr rfl) (by omega) (by rw [hmp]; omega) (by omega)
  have hwd : wdP wf vf (t + 1) = fun j q => bif j == t + 1 && q == 0 then some (wf (t + 1)) else wdQ wf vf t j q := by
    funext j q
    unfold wdP wdQ
    by_cases hj : j = t + 1
    · subst hj
      rw [decide_eq_true (by omega : 1 ≤ t + 1), decide_eq_true (by omega : t + 1 ≤ t + 1), decide_eq_false (by omega : ¬ t + 1 < t + 1), decide_eq_false (by omega : ¬ t + 1 ≤ t)]
      simp
    · have h1 : (j == t + 1) = false := by simpa using hj
      have h2 : decide (j ≤ t + 1) = decide (j ≤ t) := by
        by_cases a : j ≤ t
        · rw [decide_eq_true a, decide_eq_true (by omega)]
        · rw [decide_eq_false a, decide_eq_false (by omega)]
      have h3 : decide (j < t + 1) = decide (j ≤ t) := by
        by_cases a : j ≤ t
        · rw [decide_eq_true a, decide_eq_true (by omega)]
        · rw [decide_eq_false a, decide_eq_false (by omega)]
      rw [h1, h2, h3]; simp
  have hwq : ∀ j q, (bif j == t + 1 && q == 1 - 1 && (!(bif t + 1 == t + 1 && 1 - 1 == (1 : Int) then some (vf (t + 1)) else wdQ wf vf t (t + 1) (1 - 1)).isSome && decide (t + 1 > 0) && ((bif t + 1 == t + 1 && 1 - 1 == (0 : Int) then some (wf (t + 1)) else wdQ wf vf t (t + 1) (1 - 1)).getD 0 != 0)) then some ((bif t + 1 == t + 1 && 1 - 1 == (0 : Int) then some (wf (t + 1)) else wdQ wf vf t (t + 1) (1 - 1)).getD 0) else bif j == t + 1 && q == 1 then some (vf (t + 1)) else wdQ wf vf t j q) = wdQ wf vf (t + 1) j q := by
    intro j q
    have e0 : ((1 : Int) - 1) = 0 := rfl
    have e2 : (wf (t + 1) != 0) = true := by have := hwf (t + 1); simp; omega
    rw [e0, nU0, decide_eq_true (by omega : t + 1 > 0)]
    simp only [beq_self_eq_true, Bool.true_and, cond_true, Option.getD_some, e2, Bool.and_true, show ((0 : Int) == 1) = false from rfl, cond_false, Option.isSome_none, Bool.not_false]
    unfold wdQ
    by_cases hj : j = t + 1
    · subst hj
      rw [decide_eq_true (by omega : 1 ≤ t + 1), decide_eq_true (by omega : t + 1 ≤ t + 1), decide_eq_false (by omega : ¬ t + 1 ≤ t)]
      simp
    · have h1 : (j == t + 1) = false := by simpa using hj
      have h2 : decide (j ≤ t + 1) = decide (j ≤ t) := by
        by_cases a : j ≤ t
        · rw [decide_eq_true a, decide_eq_true (by omega)]
        · rw [decide_eq_false a, decide_eq_false (by omega)]
      rw [h1, h2]; simp
  have V5 := V4.congr (fun _ _ => rfl) (W2 := wdP wf vf (t + 1)) (fun j q => by rw [hwd])
  have U6 := U5.congr (fun _ _ => rfl) hwq
  have out : ∀ (X : Peer) (a b c d : Int) (Kx : Int → Int → Bool) (Wx : Int → Int → Option Int), Vw X a b c d Kx Wx → (∀ j q x, Wx j q = some x → (1 ≤ j ∧ j ≤ t + 1) ∧ (x = wf j ∧ q = 0 ∨ x = vf j ∧ q = 1)) → desB X = true → ∃ j, 1 ≤ j ∧ j ≤ t + 1 ∧ vf j ≠ wf j := by
    intro X a b c d Kx Wx hX hWx hd
    obtain ⟨j, q, x, o, h1, h2, h3⟩ := (desB_iff hX.kn).1 hd
    rw [hX.words] at h1 h2
    obtain ⟨g1, g2⟩ := hWx j q x h1
    obtain ⟨_, g4⟩ := hWx j X.me o h2
    refine ⟨j, g1.1, g1.2, fun hvw => h3 ?_⟩
    rcases g2 with ⟨rfl, _⟩ | ⟨rfl, _⟩ <;> rcases g4 with ⟨rfl, _⟩ | ⟨rfl, _⟩ <;> first | rfl | exact hvw | exact hvw.symm
  have inQ : ∀ j q x, wdQ wf vf (t + 1) j q = some x → (1 ≤ j ∧ j ≤ t + 1) ∧ (x = wf j ∧ q = 0 ∨ x = vf j ∧ q = 1) := by
    intro j q x hx
    unfold wdQ at hx
    by_cases a : 1 ≤ j ∧ j ≤ t + 1
    · refine ⟨a, ?_⟩
      rw [decide_eq_true a.1, decide_eq_true a.2] at hx
      by_cases q0 : q = 0
      · subst q0; simp at hx; exact .inl ⟨hx.symm, rfl⟩
      · have h0 : (q == 0) = false := by simpa using q0
        rw [h0] at hx
        by_cases q1 : q = 1
        · subst q1; simp at hx; exact .inr ⟨hx.symm, rfl⟩
        · have h1 : (q == 1) = false := by simpa using q1
          rw [h1] at hx; simp at hx
    · have : (decide (1 ≤ j) && decide (j ≤ t + 1)) = false := by
        by_cases b : 1 ≤ j
        · rw [decide_eq_false (by omega : ¬ j ≤ t + 1)]; simp
        · rw [decide_eq_false b]; simp
      rw [this] at hx; simp at hx
  have inP : ∀ j q x, wdP wf vf (t + 1) j q = some x → (1 ≤ j ∧ j ≤ t + 1) ∧ (x = wf j ∧ q = 0 ∨ x = vf j ∧ q = 1) := by
    intro j q x hx
    refine inQ j q x ?_
    unfold wdP at hx
    unfold wdQ
    cases hb : (decide (1 ≤ j) && decide (j ≤ t + 1) && q == 0) with
    | true => rw [hb] at hx; exact hx
    | false =>
      rw [hb] at hx
      simp only [cond_false] at hx ⊢
      by_cases c : j < t + 1
      · rw [decide_eq_true c] at hx; rw [decide_eq_true (by omega : j ≤ t + 1)]; exact hx
      · rw [decide_eq_false c] at hx; simp at hx
  refine ⟨⟨tV, tU⟩, ⟨⟨tV1, V1.ok⟩, tU1, U1.ok⟩, ⟨sV1, sU1⟩, ⟨(sendB_ok V1.ok sV1).1, (sendB_ok U1.ok sU1).1⟩, ⟨(sendB_ok V1.ok sV1).2, (sendB_ok U1.ok sU1).2⟩, ⟨rU, rV⟩, ⟨⟨tV2, V2.ok⟩, tU2, U2.ok⟩, ⟨aV, aU⟩, ⟨nV, nU⟩, ⟨⟨tV4, V4.ok⟩, tU4, U4.ok⟩, ⟨sV4, rU5⟩, sendB_ok V4.ok sV4, ?_, out _ _ _ _ _ _ _ V5 inP, ?_⟩
  · refine ⟨out _ _ _ _ _ _ _ U6 inQ, ?_⟩
    rintro ⟨j, j1, j2, hne⟩
    refine (desB_iff U6.kn).2 ⟨j, 0, wf j, vf j, ?_, ?_, hne⟩
    · rw [U6.words]; unfold wdQ; rw [decide_eq_true j1, decide_eq_true j2]; rfl
    · rw [U6.words, U6.pm]; unfold wdQ; rw [decide_eq_true j1, decide_eq_true j2]; rfl
  · have a2 : t + 2 + 1 = t + 1 + 2 := by omega
    have V7 : Vw _ 0 (t + 1) (t + 1 + 2) _ _ _ := a2 ▸ V5
    have U7 : Vw _ 1 (t + 1) (t + 1 + 2) _ _ _ := a2 ▸ U6
    refine ⟨_, _, _, _, V7, U7, by rw [hmp]; omega, by rw [hmq]; unfold mx2; split <;> omega, fun j q j1 j2 hqq => ?_⟩
    by_cases c : j < t + 2
    · have := hK j q j1 c hqq
      simp [this.1, this.2]
    · have : j = t + 2 := by omega
      subst this
      have b1 : decide (hp ≤ t + 2) = true := decide_eq_true (by omega)
      have b2 : decide (hq ≤ t + 2) = true := decide_eq_true (by omega)
      have b3 : decide (t + 2 < t + 2 + 1) = true := decide_eq_true (by omega)
      have b4 : decide (2 ≤ t + 2) = true := decide_eq_true (by omega)
      rcases hqq with rfl | rfl
      · simp [b1, b2, b3, b4]
        exact .inr (.inl (by omega))
      · simp [b1, b2, b3, b4]
        exact .inl (by omega)
end Go.Eng.S25
