/- Seat 25: what is sent is what is taken in; entries by their keys. Plain Lean. -/
import Derived.Test.YtodnecfgiimclaaS25P
set_option linter.unusedSimpArgs false
set_option linter.unusedVariables false
namespace Go.Eng.S25
/-! ### Entries by their keys -/
theorem kget_kput {α : Type} : ∀ (S : List ((Int × Int) × α)) (t p : Int) (v : α) (t' p' : Int), kget (kput S t p v) t' p' = bif t' == t && p' == p then some v else kget S t' p'
  | [], t, p, v, t', p' => rfl
  | e :: S, t, p, v, t', p' => by
    simp only [kput]
    cases hb : (t == e.1.1 && p == e.1.2) with
    | true =>
      show (bif t' == t && p' == p then some v else kget S t' p') = bif t' == t && p' == p then some v else bif t' == e.1.1 && p' == e.1.2 then some e.2 else kget S t' p'
      simp only [Bool.and_eq_true, beq_iff_eq] at hb
      rw [← hb.1, ← hb.2]
      cases t' == t && p' == p <;> rfl
    | false =>
      show (bif t' == e.1.1 && p' == e.1.2 then some e.2 else kget (kput S t p v) t' p') = bif t' == t && p' == p then some v else bif t' == e.1.1 && p' == e.1.2 then some e.2 else kget S t' p'
      rw [kget_kput S]
      cases h1 : (t' == t && p' == p) with
      | true =>
        simp only [Bool.and_eq_true, beq_iff_eq] at h1
        rw [h1.1, h1.2, hb]; rfl
      | false => rfl
/-- No key twice. -/
def KN {α : Type} (S : List ((Int × Int) × α)) : Prop := (S.map (·.1)).Nodup
theorem kput_keys {α : Type} : ∀ {S : List ((Int × Int) × α)} {t p : Int} {v : α} {k : Int × Int}, k ∈ (kput S t p v).map (·.1) → k ∈ S.map (·.1) ∨ k = (t, p)
  | [], t, p, v, k, h => by simp [kput] at h; exact .inr h
  | e :: S, t, p, v, k, h => by
    simp only [kput] at h
    cases hb : (t == e.1.1 && p == e.1.2) with
    | true =>
      rw [hb] at h
      rcases List.mem_cons.1 h with h | h
      · exact .inr h
      · exact .inl (List.mem_cons_of_mem _ h)
    | false =>
      rw [hb] at h
      rcases List.mem_cons.1 h with h | h
      · exact .inl (by rw [h]; exact List.mem_cons_self)
      · exact (kput_keys h).imp (List.mem_cons_of_mem _) id
theorem KN.put {α : Type} : ∀ {S : List ((Int × Int) × α)} {t p : Int} {v : α}, KN S → KN (kput S t p v)
  | [], t, p, v, _ => by simp [KN, kput]
  | e :: S, t, p, v, h => by
    unfold KN at h ⊢
    rw [List.map_cons, List.nodup_cons] at h
    simp only [kput]
    cases hb : (t == e.1.1 && p == e.1.2) with
    | true =>
      simp only [Bool.and_eq_true, beq_iff_eq] at hb
      simp only [cond_true, List.map_cons, List.nodup_cons]
      have : (t, p) = e.1 := by rw [hb.1, hb.2]
      rw [this]; exact h
    | false =>
      simp only [cond_false, List.map_cons, List.nodup_cons]
      refine ⟨fun hm => ?_, KN.put h.2⟩
      rcases kput_keys hm with hm | hm
      · exact h.1 hm
      · rw [hm] at hb; simp at hb
theorem kget_of_mem {α : Type} : ∀ {S : List ((Int × Int) × α)}, KN S → ∀ {x : (Int × Int) × α}, x ∈ S → kget S x.1.1 x.1.2 = some x.2
  | e :: S, h, x, hx => by
    unfold KN at h
    rw [List.map_cons, List.nodup_cons] at h
    simp only [kget]
    rcases List.mem_cons.1 hx with rfl | hx
    · simp
    · cases hb : (x.1.1 == e.1.1 && x.1.2 == e.1.2) with
      | true =>
        simp only [Bool.and_eq_true, beq_iff_eq] at hb
        have : x.1 = e.1 := Prod.ext hb.1 hb.2
        exact absurd (List.mem_map.2 ⟨x, hx, this⟩) h.1
      | false => exact kget_of_mem h.2 hx
/-- Out of step, by keys. -/
theorem desB_iff {P : Peer} (h : KN P.words) : desB P = true ↔ ∃ t q w o, kget P.words t q = some w ∧ kget P.words t P.me = some o ∧ o ≠ w := by
  unfold desB
  rw [List.any_eq_true]
  constructor
  · rintro ⟨x, hx, hb⟩
    unfold badW at hb
    cases ho : kget P.words x.1.1 P.me with
    | none => rw [ho] at hb; cases hb
    | some o =>
      rw [ho] at hb
      exact ⟨x.1.1, x.1.2, x.2, o, kget_of_mem h hx, ho, by simpa using hb⟩
  · rintro ⟨t, q, w, o, h1, h2, h3⟩
    refine ⟨_, kget_mem h1, ?_⟩
    unfold badW
    simp only [h2]
    simpa using h3
/-! ### Numbers there and back -/
theorem numL_leB : ∀ (k : Nat) (v : Int), 0 ≤ v → v < 256 ^ k → numL (leB k v) = v
  | 0, v, h0, h1 => by
    have : v < 1 := by simpa using h1
    show (0 : Int) = v
    omega
  | k + 1, v, h0, h1 => by
    rw [leB, numL, numL_leB k (v / 256) (by omega) (by
      rw [Int.pow_succ] at h1
      exact Int.ediv_lt_of_lt_mul (by omega) h1)]
    omega
/-! ### What is sent is what is taken in -/
def setsL (P : Peer) : Int → Nat → List (List Int)
  | _, 0 => []
  | t, k + 1 => setOf P t :: setsL P (t + 1) k
theorem setsL_len (P : Peer) : ∀ (k : Nat) (t : Int), (setsL P t k).length = k
  | 0, _ => rfl
  | k + 1, t => by rw [setsL, List.length_cons, setsL_len]
theorem setsL_get (P : Peer) : ∀ (k : Nat) (t : Int) (i : Nat), i < k → (setsL P t k).getD i [] = setOf P (t + i)
  | 0, _, i, h => by omega
  | k + 1, t, 0, _ => by
    show setOf P t = setOf P (t + ((0 : Nat) : Int))
    congr 1; omega
  | k + 1, t, i + 1, h => by
    show (setsL P (t + 1) k).getD i [] = _
    rw [setsL_get P k (t + 1) i (by omega)]
    congr 1; omega
theorem cutA_step (k : Nat) {R : List Int} (acc : List (List Int)) {n : Int} (h1 : 2 ≤ R.length) (h2 : numL (R.take 2) = n) (h3 : n ≤ 704) (h4 : 2 + n ≤ R.length) : cutA (k + 1) R acc = cutA k (R.drop (2 + n.toNat)) (acc ++ [(R.drop 2).take n.toNat]) := by
  subst h2
  show (bif Nat.blt R.length 2 then ([], 2) else bif decide (numL (R.take 2) > 704) then ([], 3) else bif decide ((R.length : Int) < 2 + numL (R.take 2)) then ([], 2) else
      cutA k (R.drop (2 + (numL (R.take 2)).toNat)) (acc ++ [(R.drop 2).take (numL (R.take 2)).toNat])) = _
  rw [nblt_no (by omega), decide_eq_false (by omega), decide_eq_false (by omega)]
  rfl
theorem cutA_sets {P : Peer} (h : OkP P) : ∀ (k : Nat) (t : Int) (acc : List (List Int)), cutA k (setsB P t k) acc = (acc ++ setsL P t k, 0)
  | 0, t, acc => by
    show (acc, (0 : Int)) = (acc ++ [], 0)
    rw [List.append_nil]
  | k + 1, t, acc => by
    have hS := (setOf_ok h t).1
    have e0 : setsB P t (k + 1) = leB 2 (setOf P t).length ++ setOf P t ++ setsB P (t + 1) k := rfl
    have e1 : setsL P t (k + 1) = setOf P t :: setsL P (t + 1) k := rfl
    rw [e0, e1]
    generalize hSS : setOf P t = S at hS
    have hlen : (leB 2 (S.length : Int) ++ S ++ setsB P (t + 1) k).length = 2 + S.length + (setsB P (t + 1) k).length := by
      simp only [List.length_append, leB_len]
    have ht : (leB 2 (S.length : Int) ++ S ++ setsB P (t + 1) k).take 2 = leB 2 (S.length : Int) := by
      rw [List.append_assoc, List.take_append_of_le_length (by rw [leB_len]; omega), List.take_of_length_le (by rw [leB_len]; omega)]
    have hn : numL (leB 2 (S.length : Int)) = S.length := numL_leB 2 _ (by omega) (by show (S.length : Int) < 65536; omega)
    have hd2 : (leB 2 (S.length : Int) ++ S ++ setsB P (t + 1) k).drop 2 = S ++ setsB P (t + 1) k := by
      rw [List.append_assoc, List.drop_append_of_le_length (by rw [leB_len]; omega), List.drop_of_length_le (by rw [leB_len]; omega), List.nil_append]
    rw [cutA_step k acc (n := S.length) (by omega) (by rw [ht, hn]) (by omega) (by omega), Int.toNat_natCast, ← List.drop_drop, hd2, List.take_left, List.drop_left, cutA_sets h k]
    simp
theorem send_parts {P : Peer} (h : OkP P) {to : Int} (hT : 0 ≤ P.turn ∧ P.turn ≤ 1000000) (he : sendE P to = 0) :
    cutF (sendB P to) = (setsL P (P.hd to.toNat) (cntOf P to).toNat, 0) ∧ mFrom (sendB P to) = P.me ∧ mTo (sendB P to) = to ∧ mTurn (sendB P to) = P.turn ∧ mWord (sendB P to) = wordOf P P.turn ∧ mFirst (sendB P to) = P.hd to.toNat := by
  have ho : otherB P to = true := by
    unfold sendE at he
    cases ho : otherB P to with
    | true => rfl
    | false => rw [ho] at he; cases he
  have hc : cntOf P to ≤ 255 := by
    unfold sendE at he
    rw [ho] at he
    by_cases hc : cntOf P to ≤ 255
    · exact hc
    · rw [decide_eq_true (by omega : cntOf P to > 255)] at he; cases he
  have eB : sendB P to = headB P to ++ setsB P (P.hd to.toNat) (cntOf P to).toNat := by
    unfold sendB
    rw [he]; rfl
  rw [eB]
  have hh := h.hd to.toNat (by
    have := h.n
    unfold otherB at ho
    simp only [Bool.and_eq_true, decide_eq_true_eq] at ho
    omega)
  have hw := wordOf_ok h P.turn
  refine ⟨?_, rfl, rfl, ?_, ?_, ?_⟩
  · unfold cutF
    have hl : (headB P to).length = 19 := (headB_ok h ho hc).1
    rw [nblt_no (by rw [List.length_append]; omega)]
    have e1 : (headB P to ++ setsB P (P.hd to.toNat) (cntOf P to).toNat).getD 18 0 = cntOf P to := rfl
    have e2 : (headB P to ++ setsB P (P.hd to.toNat) (cntOf P to).toNat).drop 19 = setsB P (P.hd to.toNat) (cntOf P to).toNat := rfl
    rw [e1, e2]
    exact cutA_sets h _ _ _
  · show numL (leB 4 P.turn) = P.turn
    exact numL_leB 4 _ hT.1 (by show P.turn < 4294967296; omega)
  · show numL (leB 8 (wordOf P P.turn)) = _
    exact numL_leB 8 _ hw.1 (by show wordOf P P.turn < 18446744073709551616; omega)
  · show numL (leB 4 (P.hd to.toNat)) = _
    exact numL_leB 4 _ hh.1 (by show P.hd to.toNat < 4294967296; omega)
theorem sendE_ok {P : Peer} {to : Int} (h1 : 0 ≤ to ∧ to < P.n) (h2 : to ≠ P.me) (h3 : P.iss - P.hd to.toNat ≤ 255) : sendE P to = 0 := by
  unfold sendE otherB
  rw [decide_eq_true h1.1, decide_eq_true h1.2, show (to == P.me) = false by simpa using h2]
  simp only [Bool.and_self, Bool.not_false, Bool.not_true, cond_false]
  rw [decide_eq_false]
  · rfl
  · unfold cntOf mx2
    split <;> omega
theorem cnt_iss {P : Peer} {to : Int} : ((cntOf P to).toNat : Int) = cntOf P to := by
  unfold cntOf mx2
  split <;> omega
/-- A message that a peer sent is taken in by the one to whom it was sent. -/
theorem rec_send {P Q : Peer} (hP : OkP P) (hQ : OkP Q) (hT : 0 ≤ P.turn ∧ P.turn ≤ 1000000) (hn : P.n = Q.n) (he : sendE P Q.me = 0) (hne : P.me ≠ Q.me) (hf : P.iss ≤ Q.turn + 16) : recE Q (sendB P Q.me) = 0 := by
  obtain ⟨e1, e2, e3, e4, e5, e6⟩ := send_parts hP hT he
  unfold recE
  rw [e1, e2, e3, e6]
  have a1 : decide (P.me ≥ Q.n) = false := decide_eq_false (by have := hP.me; omega)
  have a2 : (P.me == Q.me) = false := by simpa using hne
  have a3 : (Q.me != Q.me) = false := by simp
  rw [a1, a2, a3, setsL_len, cnt_iss]
  simp only [bne_self_eq_false, cond_false, Bool.or_self]
  have : (Nat.blt 0 (cntOf P Q.me).toNat && decide (P.hd Q.me.toNat + cntOf P Q.me - 1 ≥ Q.turn + 16)) = false := by
    by_cases h0 : 0 < (cntOf P Q.me).toNat
    · rw [nblt_yes h0, Bool.true_and, decide_eq_false]
      have h1 := @cnt_iss P Q.me
      unfold cntOf mx2 at h1 ⊢
      unfold cntOf mx2 at h0
      split <;> rename_i hx
      · omega
      · rw [if_neg hx] at h0; omega
    · rw [nblt_no h0, Bool.false_and]
  rw [this]; rfl
/-- Which sets are known behind a message. -/
theorem recS_get (q first : Int) (Ls : List (List Int)) (S : List ((Int × Int) × List Int)) : ∀ (k : Nat) (j q' : Int),
    kget (recS q first Ls S k) j q' = bif q' == q && decide (first ≤ j) && decide (j < first + k) && !(kn S j q) then some (Ls.getD (j - first).toNat []) else kget S j q'
  | 0, j, q' => by
    have : (q' == q && decide (first ≤ j) && decide (j < first + ((0 : Nat) : Int)) && !(kn S j q)) = false := by
      by_cases h : first ≤ j
      · rw [decide_eq_false (by omega : ¬ j < first + ((0 : Nat) : Int))]; simp
      · rw [decide_eq_false h]; simp
    rw [this]; rfl
  | k + 1, j, q' => by
    have hk : kn (recS q first Ls S k) (first + (k : Nat)) q = kn S (first + (k : Nat)) q := by
      unfold kn
      rw [recS_get q first Ls S k, decide_eq_false (by omega : ¬ first + ((k : Nat) : Int) < first + ((k : Nat) : Int))]
      simp
    simp only [recS, hk]
    by_cases hj : j = first + (k : Nat) ∧ q' = q
    · obtain ⟨rfl, rfl⟩ := hj
      have h1 : decide (first ≤ first + ((k : Nat) : Int)) = true := decide_eq_true (by omega)
      have h2 : decide (first + ((k : Nat) : Int) < first + ((k + 1 : Nat) : Int)) = true := decide_eq_true (by omega)
      have h3 : decide (first + ((k : Nat) : Int) < first + ((k : Nat) : Int)) = false := decide_eq_false (by omega)
      have h4 : (first + ((k : Nat) : Int) - first).toNat = k := by omega
      rw [h1, h2, h4]
      cases hb : kn S (first + (k : Nat)) q' with
      | true =>
        simp only [cond_true]
        rw [recS_get q' first Ls S k, h3]
        simp
      | false =>
        simp only [cond_false]
        rw [kget_kput]
        simp
    · have h2 : (q' == q && decide (first ≤ j) && decide (j < first + ((k + 1 : Nat) : Int)) && !(kn S j q)) = (q' == q && decide (first ≤ j) && decide (j < first + ((k : Nat) : Int)) && !(kn S j q)) := by
        by_cases hq : q' = q
        · have hjne : j ≠ first + (k : Nat) := fun h => hj ⟨h, hq⟩
          have : decide (j < first + ((k + 1 : Nat) : Int)) = decide (j < first + ((k : Nat) : Int)) := by
            by_cases hlt : j < first + ((k : Nat) : Int)
            · rw [decide_eq_true hlt, decide_eq_true (by omega)]
            · rw [decide_eq_false hlt, decide_eq_false (by omega)]
          rw [this]
        · have : (q' == q) = false := by simpa using hq
          rw [this]; simp
      rw [h2]
      cases hb : kn S (first + (k : Nat)) q with
      | true => exact recS_get q first Ls S k j q'
      | false =>
        simp only [cond_false]
        rw [kget_kput]
        have : (j == first + ((k : Nat) : Int) && q' == q) = false := by
          cases h : (j == first + ((k : Nat) : Int) && q' == q) with
          | false => rfl
          | true => simp only [Bool.and_eq_true, beq_iff_eq] at h; exact absurd h hj
        rw [this]
        exact recS_get q first Ls S k j q'
theorem recW_get (P : Peer) (L : List Int) (j q : Int) : kget (recW P L) j q = bif j == mTurn L && q == mFrom L && (!(kget P.words (mTurn L) (mFrom L)).isSome && decide (mTurn L > 0) && (mWord L != 0)) then some (mWord L) else kget P.words j q := by
  unfold recW
  cases hb : (!(kget P.words (mTurn L) (mFrom L)).isSome && decide (mTurn L > 0) && (mWord L != 0)) with
  | true => rw [cond_true, kget_kput, Bool.and_true]
  | false => rw [cond_false, Bool.and_false]; rfl
theorem recW_kn {P : Peer} (L : List Int) (h : KN P.words) : KN (recW P L) := by
  unfold recW
  cases (!(kget P.words (mTurn L) (mFrom L)).isSome && decide (mTurn L > 0) && (mWord L != 0)) with
  | true => exact h.put
  | false => exact h
/-! ### Peers stay peers -/
theorem issP_ok {P : Peer} {L : List Int} (h : OkP P) (hL : IsU L) : OkP (issP P L) := by
  unfold issP
  cases he : issE P L.length == 0 with
  | false => exact h
  | true =>
    refine ⟨h.n, h.me, h.hd, fun x hx => ?_, h.words⟩
    rcases kput_mem hx with hx | hx
    · exact h.sets x hx
    · rw [hx]
      refine ⟨?_, hL⟩
      unfold issE at he
      by_cases h7 : (L.length : Int) > 704
      · rw [decide_eq_true h7] at he; cases he
      · omega
theorem advP_ok {P : Peer} (h : OkP P) : OkP (advP P) := by
  unfold advP
  cases advK P P.n.toNat with
  | true => exact ⟨h.n, h.me, h.hd, h.sets, h.words⟩
  | false => exact h
theorem noteP_ok {P : Peer} {w : Int} (h : OkP P) (hw : 0 ≤ w ∧ w ≤ 18446744073709551615) : OkP (noteP P w) := by
  unfold noteP
  cases noteE P w == 0 with
  | false => exact h
  | true =>
    refine ⟨h.n, h.me, h.hd, h.sets, fun x hx => ?_⟩
    rcases kput_mem hx with hx | hx
    · exact h.words x hx
    · rw [hx]; exact hw
end Go.Eng.S25

/- Seat 25: two peers, in step or not. Plain Lean. -/
set_option linter.unusedSimpArgs false
set_option linter.unusedVariables false
namespace Go.Eng.S25
theorem issP_eq {P : Peer} {L : List Int} (h : issE P L.length = 0) : issP P L = ⟨P.me, P.n, P.turn, P.iss + 1, P.hd, kput P.sets P.iss P.me L, P.words⟩ := by unfold issP; rw [h]; rfl
theorem recP_eq {P : Peer} {L : List Int} (h : recE P L = 0) : recP P L = ⟨P.me, P.n, P.turn, P.iss, recH P L, recS (mFrom L) (mFirst L) (cutF L).1 P.sets (cutF L).1.length, recW P L⟩ := by unfold recP; rw [h]; rfl
theorem noteP_eq {P : Peer} {w : Int} (h : noteE P w = 0) : noteP P w = ⟨P.me, P.n, P.turn, P.iss, P.hd, P.sets, kput P.words P.turn P.me w⟩ := by unfold noteP; rw [h]; rfl
/-- What one of two peers is, as far as it goes. -/
structure Vw (P : Peer) (me t i h : Int) (K : Int → Int → Bool) (W : Int → Int → Option Int) : Prop where
  ok : OkP P
  pm : P.me = me
  pn : P.n = 2
  pt : P.turn = t
  pi : P.iss = i
  ph : P.hd (1 - me).toNat = h
  kn : KN P.words
  sets : ∀ j q, (kget P.sets j q).isSome = K j q
  words : ∀ j q, kget P.words j q = W j q
variable {P Q : Peer} {me t i h t' i' h' : Int} {K K' : Int → Int → Bool} {W W' : Int → Int → Option Int}
theorem Vw.iss (V : Vw P me t i h K W) (hi : i < t + 8) : issE P 0 = 0 ∧ Vw (issP P []) me t (i + 1) h (fun j q => (j == i && q == me) || K j q) W := by
  have e : issE P 0 = 0 := by
    unfold issE
    rw [decide_eq_false (by omega), decide_eq_false (by rw [V.pi, V.pt]; omega)]
    rfl
  refine ⟨e, ?_⟩
  have hok := issP_ok (L := []) V.ok (fun x hx => by cases hx)
  rw [issP_eq (L := []) e] at hok ⊢
  refine ⟨hok, V.pm, V.pn, V.pt, by show P.iss + 1 = _; rw [V.pi], V.ph, V.kn, fun j q => ?_, V.words⟩
  show (kget (kput P.sets P.iss P.me []) j q).isSome = _
  rw [kget_kput, V.pi, V.pm]
  cases j == i && q == me with
  | true => rfl
  | false => exact V.sets j q
theorem Vw.send (V : Vw P me t i h K W) (hm : me = 0 ∨ me = 1) (hi : i - h ≤ 255) : sendE P (1 - me) = 0 := by
  refine sendE_ok ⟨by omega, by rw [V.pn]; omega⟩ (by rw [V.pm]; omega) ?_
  rw [V.pi, V.ph]; exact hi
theorem Vw.recv (V : Vw P me t i h K W) (U : Vw Q (1 - me) t' i' h' K' W') (hm : me = 0 ∨ me = 1) (ht : 0 ≤ t' ∧ t' ≤ 1000000) (hi : i' - h' ≤ 255) (hf : i' ≤ t + 16) :
    recE P (sendB Q me) = 0 ∧ Vw (recP P (sendB Q me)) me t i (mx2 h t') (fun j q => (q == 1 - me && decide (h' ≤ j) && decide (j < i') && decide (2 ≤ j)) || K j q)
      (fun j q => bif j == t' && q == 1 - me && (!(W t' (1 - me)).isSome && decide (t' > 0) && ((W' t' (1 - me)).getD 0 != 0)) then some ((W' t' (1 - me)).getD 0) else W j q) := by
  have hmm : 1 - (1 - me) = me := by omega
  have hs : sendE Q me = 0 := by have := U.send (by omega) hi; rwa [hmm] at this
  have hT : 0 ≤ Q.turn ∧ Q.turn ≤ 1000000 := by rw [U.pt]; exact ht
  have e : recE P (sendB Q me) = 0 := by
    have := rec_send (P := Q) (Q := P) U.ok V.ok hT (by rw [U.pn, V.pn]) (by rw [V.pm]; exact hs) (by rw [U.pm, V.pm]; omega) (by rw [U.pi, V.pt]; exact hf)
    rwa [V.pm] at this
  obtain ⟨e1, e2, e3, e4, e5, e6⟩ := send_parts U.ok hT hs
  have hU : IsU (sendB Q me) := by
    unfold sendB
    rw [hs]
    have ho : otherB Q me = true := by
      unfold sendE at hs
      cases ho : otherB Q me with
      | true => rfl
      | false => rw [ho] at hs; cases hs
    have hc : cntOf Q me ≤ 255 := by
      unfold sendE at hs
      rw [ho] at hs
      by_cases hc : cntOf Q me ≤ 255
      · exact hc
      · rw [decide_eq_true (by omega : cntOf Q me > 255)] at hs; cases hs
    exact isU_app (headB_ok U.ok ho hc).2 (setsB_ok U.ok _ _).2
  refine ⟨e, ?_⟩
  have hok := recP_ok V.ok hU
  rw [recP_eq e] at hok ⊢
  refine ⟨hok, V.pm, V.pn, V.pt, V.pi, ?_, recW_kn _ V.kn, fun j q => ?_, fun j q => ?_⟩
  · show recH P (sendB Q me) (1 - me).toNat = _
    unfold recH
    rw [e2, U.pm, e4, U.pt, V.ph]
    simp
  · show (kget (recS (mFrom (sendB Q me)) (mFirst (sendB Q me)) (cutF (sendB Q me)).1 P.sets (cutF (sendB Q me)).1.length) j q).isSome = _
    have hh : Q.hd me.toNat = h' := by have := U.ph; rwa [hmm] at this
    rw [recS_get, e1, e2, e6, U.pm, setsL_len, cnt_iss, hh]
    have hc : cntOf Q me = mx2 0 (i' - h') := by unfold cntOf; rw [U.pi, hh]
    have hk : Go.Eng.S25.kn P.sets j (1 - me) = (decide (j < 2) || K j (1 - me)) := by unfold Go.Eng.S25.kn; rw [V.sets]
    rw [hk]
    by_cases hq : q = 1 - me
    · subst hq
      have hr : decide (j < h' + cntOf Q me) = (decide (j < i') || decide (j < h')) := by
        rw [hc]
        unfold mx2
        by_cases a : j < i' <;> by_cases b : j < h' <;> simp [a, b] <;> split <;> omega
      rw [hr]
      by_cases a : h' ≤ j
      · rw [decide_eq_true a, decide_eq_false (by omega : ¬ j < h')]
        by_cases b : j < i'
        · rw [decide_eq_true b]
          by_cases c : j < 2
          · rw [decide_eq_true c, decide_eq_false (by omega : ¬ 2 ≤ j)]
            simp [V.sets]
          · rw [decide_eq_false c, decide_eq_true (by omega : 2 ≤ j)]
            cases hK : K j (1 - me) with
            | true => simp [V.sets, hK]
            | false => simp
        · rw [decide_eq_false b]
          simp [V.sets]
      · rw [decide_eq_false a]
        simp [V.sets]
    · have : (q == 1 - me) = false := by simpa using hq
      rw [this]
      simp [V.sets]
  · show kget (recW P (sendB Q me)) j q = _
    have hw : wordOf Q t' = (W' t' (1 - me)).getD 0 := by unfold wordOf; rw [U.words, U.pm]
    rw [recW_get, e2, e4, e5, U.pm, U.pt, hw, V.words, V.words]
theorem Vw.adv (V : Vw P me t i h K W) (hk : t < 2 ∨ (K t 0 = true ∧ K t 1 = true)) : advE P = 0 ∧ Vw (advP P) me (t + 1) i h K W := by
  have e : advK P P.n.toNat = true := by
    rw [V.pn]
    show ((true && knownB P P.turn ((0 : Nat) : Int)) && knownB P P.turn ((1 : Nat) : Int)) = true
    unfold knownB
    rw [V.sets, V.sets, V.pt]
    rcases hk with hk | ⟨h1, h2⟩
    · rw [decide_eq_true hk]; rfl
    · rw [show K t ((0 : Nat) : Int) = true from h1, show K t ((1 : Nat) : Int) = true from h2]; simp
  refine ⟨by unfold advE; rw [e]; rfl, ?_⟩
  have hok := advP_ok V.ok
  unfold advP at hok ⊢
  rw [e] at hok ⊢
  exact ⟨hok, V.pm, V.pn, by show P.turn + 1 = _; rw [V.pt], V.pi, V.ph, V.kn, V.sets, V.words⟩
theorem Vw.note (V : Vw P me t i h K W) {w : Int} (ht : 0 < t) (hw : W t me = none) (hr : 0 < w ∧ w ≤ 18446744073709551615) : noteE P w = 0 ∧ Vw (noteP P w) me t i h K (fun j q => bif j == t && q == me then some w else W j q) := by
  have e : noteE P w = 0 := by
    unfold noteE
    rw [V.words, V.pt, V.pm, hw, show (t == 0) = false by simp; omega, show (w == 0) = false by simp; omega]
    rfl
  refine ⟨e, ?_⟩
  have hok := noteP_ok (w := w) V.ok (by omega)
  rw [noteP_eq e] at hok ⊢
  refine ⟨hok, V.pm, V.pn, V.pt, V.pi, V.ph, V.kn.put, V.sets, fun j q => ?_⟩
  show kget (kput P.words P.turn P.me w) j q = _
  rw [kget_kput, V.pt, V.pm, V.words]
theorem Vw.congr {K2 : Int → Int → Bool} {W2 : Int → Int → Option Int} (V : Vw P me t i h K W) (hK : ∀ j q, K j q = K2 j q) (hW : ∀ j q, W j q = W2 j q) : Vw P me t i h K2 W2 :=
  ⟨V.ok, V.pm, V.pn, V.pt, V.pi, V.ph, V.kn, fun j q => (V.sets j q).trans (hK j q), fun j q => (V.words j q).trans (hW j q)⟩
theorem Vw.okT (V : Vw P me t i h K W) (h1 : 0 ≤ t ∧ t ≤ 1000000) (h2 : 0 ≤ i ∧ i ≤ 1000000) : okT P := by
  unfold Go.Eng.S25.okT
  rw [V.pt, V.pi]
  exact ⟨h1, h2.1, h2.2⟩
/-- The words that the two know behind t rounds: each its own, the first one's all, the second one's but the last. -/
def wdP (wf vf : Int → Int) (t : Int) (j q : Int) : Option Int := bif decide (1 ≤ j) && decide (j ≤ t) && q == 0 then some (wf j) else bif decide (1 ≤ j) && decide (j < t) && q == 1 then some (vf j) else none
def wdQ (wf vf : Int → Int) (t : Int) (j q : Int) : Option Int := bif decide (1 ≤ j) && decide (j ≤ t) && q == 0 then some (wf j) else bif decide (1 ≤ j) && decide (j ≤ t) && q == 1 then some (vf j) else none
def TellI (wf vf : Int → Int) (t : Int) (P Q : Peer) : Prop := ∃ hp hq Kp Kq, Vw P 0 t (t + 2) hp Kp (wdP wf vf t) ∧ Vw Q 1 t (t + 2) hq Kq (wdQ wf vf t) ∧ hp ≤ t ∧ hq ≤ t ∧ (∀ j q, 2 ≤ j → j < t + 2 → q = 0 ∨ q = 1 → Kp j q = true ∧ Kq j q = true)
theorem tell_start (wf vf : Int → Int) : TellI wf vf 0 (newP 0 2) (newP 1 2) := by
  have ok : ∀ me : Int, me = 0 ∨ me = 1 → OkP (newP me 2) := fun me hm => ⟨⟨by show (2 : Int) ≤ 2; omega, by show (2 : Int) ≤ 8; omega⟩, ⟨by show 0 ≤ me; omega, by show me < 2; omega⟩, fun i hi => ⟨by show (0 : Int) ≤ 0; omega, by show (0 : Int) ≤ _; omega⟩, fun x hx => (by cases hx), fun x hx => by cases hx⟩
  have w0 : ∀ j q, none = wdP wf vf 0 j q := fun j q => by
    unfold wdP
    by_cases a : 1 ≤ j
    · rw [decide_eq_false (by omega : ¬ j ≤ 0), decide_eq_false (by omega : ¬ j < 0)]; simp
    · rw [decide_eq_false a]; simp
  have w1 : ∀ j q, none = wdQ wf vf 0 j q := fun j q => by
    unfold wdQ
    by_cases a : 1 ≤ j
    · rw [decide_eq_false (by omega : ¬ j ≤ 0)]; simp
    · rw [decide_eq_false a]; simp
  exact ⟨0, 0, fun _ _ => false, fun _ _ => false, ⟨ok 0 (.inl rfl), rfl, rfl, rfl, rfl, rfl, List.nodup_nil, fun _ _ => rfl, w0⟩, ⟨ok 1 (.inr rfl), rfl, rfl, rfl, rfl, rfl, List.nodup_nil, fun _ _ => rfl, w1⟩, by omega, by omega, fun j q h1 h2 => by omega⟩
/-- One round. -/
structure TellF (wf vf : Int → Int) (t : Int) (P Q P1 Q1 P2 Q2 P3 Q3 P4 Q4 Q5 : Peer) : Prop where
  t1 : okT P ∧ okT Q
  s1 : (okT P1 ∧ OkP P1) ∧ okT Q1 ∧ OkP Q1
  e1 : sendE P1 1 = 0 ∧ sendE Q1 0 = 0
  u1 : IsU (sendB P1 1) ∧ IsU (sendB Q1 0)
  l1 : (sendB P1 1).length ≤ 100000000 ∧ (sendB Q1 0).length ≤ 100000000
  e2 : recE Q1 (sendB P1 1) = 0 ∧ recE P1 (sendB Q1 0) = 0
  s2 : (okT P2 ∧ OkP P2) ∧ okT Q2 ∧ OkP Q2
  e3 : advE P2 = 0 ∧ advE Q2 = 0
  e4 : noteE P3 (wf (t + 1)) = 0 ∧ noteE Q3 (vf (t + 1)) = 0
  s4 : (okT P4 ∧ OkP P4) ∧ okT Q4 ∧ OkP Q4
  e5 : sendE P4 1 = 0 ∧ recE Q4 (sendB P4 1) = 0
  u5 : IsU (sendB P4 1) ∧ (sendB P4 1).length ≤ 100000000
  dQ : desB Q5 = true ↔ ∃ j, 1 ≤ j ∧ j ≤ t + 1 ∧ vf j ≠ wf j
  dP : desB P4 = true → ∃ j, 1 ≤ j ∧ j ≤ t + 1 ∧ vf j ≠ wf j
  nx : TellI wf vf (t + 1) P4 Q5
theorem sendB_ok {P : Peer} (h : OkP P) {to : Int} (hs : sendE P to = 0) : IsU (sendB P to) ∧ (sendB P to).length ≤ 100000000 := by
  have ho : otherB P to = true := by
    unfold sendE at hs
    cases ho : otherB P to with
    | true => rfl
    | false => rw [ho] at hs; cases hs
  have hc : cntOf P to ≤ 255 := by
    unfold sendE at hs
    rw [ho] at hs
    by_cases hc : cntOf P to ≤ 255
    · exact hc
    · rw [decide_eq_true (by omega : cntOf P to > 255)] at hs; cases hs
  have h1 := headB_ok h ho hc
  have h2 := setsB_ok h (cntOf P to).toNat (P.hd to.toNat)
  unfold sendB
  rw [hs]
  refine ⟨isU_app h1.2 h2.2, ?_⟩
  simp only [beq_self_eq_true, cond_true, List.length_append]
  omega
theorem tell_step {wf vf : Int → Int} (hwf : ∀ j, 0 < wf j ∧ wf j ≤ 18446744073709551615) (hvf : ∀ j, 0 < vf j ∧ vf j ≤ 18446744073709551615) {t : Int} (ht : 0 ≤ t ∧ t < 40) {P Q : Peer} (hI : TellI wf vf t P Q) :
    TellF wf vf t P Q (issP P []) (issP Q []) (recP (issP P []) (sendB (issP Q []) 0)) (recP (issP Q []) (sendB (issP P []) 1)) (advP (recP (issP P []) (sendB (issP Q []) 0))) (advP (recP (issP Q []) (sendB (issP P []) 1)))
      (noteP (advP (recP (issP P []) (sendB (issP Q []) 0))) (wf (t + 1))) (noteP (advP (recP (issP Q []) (sendB (issP P []) 1))) (vf (t + 1)))
      (recP (noteP (advP (recP (issP Q []) (sendB (issP P []) 1))) (vf (t + 1))) (sendB (noteP (advP (recP (issP P []) (sendB (issP Q []) 0))) (wf (t + 1))) 1)) := by
  obtain ⟨hp, hq, Kp, Kq, V, U, hp1, hq1, hK⟩ := hI
  have hp0 : 0 ≤ hp := by rw [← V.ph]; exact (V.ok.hd _ (by decide)).1
  have hq0 : 0 ≤ hq := by rw [← U.ph]; exact (U.ok.hd _ (by decide)).1
  obtain ⟨_, V1⟩ := V.iss (by omega)
  obtain ⟨_, U1⟩ := U.iss (by omega)
  have tV := V.okT (by omega) (by omega)
  have tU := U.okT (by omega) (by omega)
  have tV1 := V1.okT (by omega) (by omega)
  have tU1 := U1.okT (by omega) (by omega)
  have sV1 : sendE (issP P []) 1 = 0 := V1.send (.inl rfl) (by omega)
  have sU1 : sendE (issP Q []) 0 = 0 := U1.send (.inr rfl) (by omega)
  obtain ⟨rV, V2⟩ := V1.recv U1 (.inl rfl) (by omega) (by omega) (by omega)
  obtain ⟨rU, U2⟩ := U1.recv V1 (.inr rfl) (by omega) (by omega) (by omega)
  have tV2 := V2.okT (by omega) (by omega)
  have tU2 := U2.okT (by omega) (by omega)
  have kk : ∀ q : Int, q = 0 ∨ q = 1 → t < 2 ∨ (Kp t q = true ∧ Kq t q = true) := fun q hq => by
    by_cases h2 : t < 2
    · exact .inl h2
    · exact .inr (hK t q (by omega) (by omega) hq)
  obtain ⟨aV, V3⟩ := V2.adv (by
    rcases kk 0 (.inl rfl) with h | h
    · exact .inl h
    · rcases kk 1 (.inr rfl) with h2 | h2
      · exact .inl h2
      · exact .inr ⟨by simp [h.1], by simp [h2.1]⟩)
  obtain ⟨aU, U3⟩ := U2.adv (by
    rcases kk 0 (.inl rfl) with h | h
    · exact .inl h
    · rcases kk 1 (.inr rfl) with h2 | h2
      · exact .inl h2
      · exact .inr ⟨by simp [h.2], by simp [h2.2]⟩)
  have nV0 : wdP wf vf t (t + 1) 0 = none := by
    unfold wdP
    rw [decide_eq_false (by omega : ¬ t + 1 ≤ t), decide_eq_false (by omega : ¬ t + 1 < t)]
    simp
  have nU1 : wdQ wf vf t (t + 1) 1 = none := by
    unfold wdQ
    rw [decide_eq_false (by omega : ¬ t + 1 ≤ t)]
    simp
  have nU0 : wdQ wf vf t (t + 1) 0 = none := by
    unfold wdQ
    rw [decide_eq_false (by omega : ¬ t + 1 ≤ t)]
    simp
  have nP1 : wdP wf vf t t 1 = none := by
    unfold wdP
    rw [decide_eq_false (by omega : ¬ t < t)]
    simp
  -- the second one's word for this turn comes to the first one
  have hW3 : ∀ j q, (bif j == t && q == 1 && (!(wdP wf vf t t 1).isSome && decide (t > 0) && ((wdQ wf vf t t 1).getD 0 != 0)) then some ((wdQ wf vf t t 1).getD 0) else wdP wf vf t j q) = wdQ wf vf t j q := by
    intro j q
    rw [nP1]
    by_cases h0 : 0 < t
    · have e1 : wdQ wf vf t t 1 = some (vf t) := by
        unfold wdQ
        rw [decide_eq_true (by omega : 1 ≤ t), decide_eq_true (by omega : t ≤ t)]
        rfl
      have e2 : (vf t != 0) = true := by have := hvf t; simp; omega
      rw [e1, decide_eq_true (by omega : t > 0)]
      simp only [Option.isSome_none, Option.getD_some, Bool.not_false, Bool.true_and, e2, Bool.and_true]
      by_cases hjq : j = t ∧ q = 1
      · obtain ⟨rfl, rfl⟩ := hjq
        rw [e1]; simp
      · have : (j == t && q == 1) = false := by
          cases h : (j == t && q == 1) with
          | false => rfl
          | true => simp only [Bool.and_eq_true, beq_iff_eq] at h; exact absurd h hjq
        rw [this]
        unfold wdP wdQ
        simp only [cond_false]
        by_cases hq : q = 1
        · have hj : j ≠ t := fun h => hjq ⟨h, hq⟩
          have : decide (j < t) = decide (j ≤ t) := by
            by_cases a : j < t
            · rw [decide_eq_true a, decide_eq_true (by omega)]
            · rw [decide_eq_false a, decide_eq_false (by omega)]
          rw [this]
        · have : (q == 1) = false := by simpa using hq
          rw [this]; simp
    · have h1 : t = 0 := by omega
      subst h1
      simp only [gt_iff_lt, Int.lt_irrefl, decide_false, Bool.and_false, Bool.false_and, cond_false]
      unfold wdP wdQ
      by_cases a : 1 ≤ j
      · rw [decide_eq_false (by omega : ¬ j ≤ 0), decide_eq_false (by omega : ¬ j < 0)]
      · rw [decide_eq_false a]; simp
  have hU3 : ∀ j q, (bif j == t && q == 0 && (!(wdQ wf vf t t 0).isSome && decide (t > 0) && ((wdP wf vf t t 0).getD 0 != 0)) then some ((wdP wf vf t t 0).getD 0) else wdQ wf vf t j q) = wdQ wf vf t j q := by
    intro j q
    by_cases h0 : 0 < t
    · have e1 : wdQ wf vf t t 0 = some (wf t) := by
        unfold wdQ
        rw [decide_eq_true (by omega : 1 ≤ t), decide_eq_true (by omega : t ≤ t)]
        rfl
      rw [e1]; simp
    · rw [decide_eq_false (by omega : ¬ t > 0)]; simp
  have V3 := V3.congr (fun _ _ => rfl) hW3
  have U3 := U3.congr (fun _ _ => rfl) hU3
  obtain ⟨nV, V4⟩ := V3.note (w := wf (t + 1)) (by omega) nU0 (hwf _)
  obtain ⟨nU, U4⟩ := U3.note (w := vf (t + 1)) (by omega) nU1 (hvf _)
  have tV4 := V4.okT (by omega) (by omega)
  have tU4 := U4.okT (by omega) (by omega)
  have hmp : mx2 hp t = t := by unfold mx2; split <;> omega
  have hmq : mx2 hq t = t := by unfold mx2; split <;> omega
  have sV4 := V4.send (.inl rfl) (by rw [hmp]; omega)
  obtain ⟨rU5, U5⟩ := U4.recv V4 (.inr rfl) (by omega) (by rw [hmp]; omega) (by omega)
  have hwd : wdP wf vf (t + 1) = fun j q => bif j == t + 1 && q == 0 then some (wf (t + 1)) else wdQ wf vf t j q := by
    funext j q
    unfold wdP wdQ
    by_cases hj : j = t + 1
    · subst hj
      rw [decide_eq_true (by omega : 1 ≤ t + 1), decide_eq_true (by omega : t + 1 ≤ t + 1), decide_eq_false (by omega : ¬ t + 1 < t + 1), decide_eq_false (by omega : ¬ t + 1 ≤ t)]
      simp
    · have h1 : (j == t + 1) = false := by simpa using hj
      have h2 : decide (j ≤ t + 1) = decide (j ≤ t) := by
        by_cases a : j ≤ t
        · rw [decide_eq_true a, decide_eq_true (by omega)]
        · rw [decide_eq_false a, decide_eq_false (by omega)]
      have h3 : decide (j < t + 1) = decide (j ≤ t) := by
        by_cases a : j ≤ t
        · rw [decide_eq_true a, decide_eq_true (by omega)]
        · rw [decide_eq_false a, decide_eq_false (by omega)]
      rw [h1, h2, h3]; simp
  have hwq : ∀ j q, (bif j == t + 1 && q == 1 - 1 && (!(bif t + 1 == t + 1 && 1 - 1 == (1 : Int) then some (vf (t + 1)) else wdQ wf vf t (t + 1) (1 - 1)).isSome && decide (t + 1 > 0) && ((bif t + 1 == t + 1 && 1 - 1 == (0 : Int) then some (wf (t + 1)) else wdQ wf vf t (t + 1) (1 - 1)).getD 0 != 0)) then some ((bif t + 1 == t + 1 && 1 - 1 == (0 : Int) then some (wf (t + 1)) else wdQ wf vf t (t + 1) (1 - 1)).getD 0) else bif j == t + 1 && q == 1 then some (vf (t + 1)) else wdQ wf vf t j q) = wdQ wf vf (t + 1) j q := by
    intro j q
    have e0 : ((1 : Int) - 1) = 0 := rfl
    have e2 : (wf (t + 1) != 0) = true := by have := hwf (t + 1); simp; omega
    rw [e0, nU0, decide_eq_true (by omega : t + 1 > 0)]
    simp only [beq_self_eq_true, Bool.true_and, cond_true, Option.getD_some, e2, Bool.and_true, show ((0 : Int) == 1) = false from rfl, cond_false, Option.isSome_none, Bool.not_false]
    unfold wdQ
    by_cases hj : j = t + 1
    · subst hj
      rw [decide_eq_true (by omega : 1 ≤ t + 1), decide_eq_true (by omega : t + 1 ≤ t + 1), decide_eq_false (by omega : ¬ t + 1 ≤ t)]
      simp
    · have h1 : (j == t + 1) = false := by simpa using hj
      have h2 : decide (j ≤ t + 1) = decide (j ≤ t) := by
        by_cases a : j ≤ t
        · rw [decide_eq_true a, decide_eq_true (by omega)]
        · rw [decide_eq_false a, decide_eq_false (by omega)]
      rw [h1, h2]; simp
  have V5 := V4.congr (fun _ _ => rfl) (W2 := wdP wf vf (t + 1)) (fun j q => by rw [hwd])
  have U6 := U5.congr (fun _ _ => rfl) hwq
  have out : ∀ (X : Peer) (a b c d : Int) (Kx : Int → Int → Bool) (Wx : Int → Int → Option Int), Vw X a b c d Kx Wx → (∀ j q x, Wx j q = some x → (1 ≤ j ∧ j ≤ t + 1) ∧ (x = wf j ∧ q = 0 ∨ x = vf j ∧ q = 1)) → desB X = true → ∃ j, 1 ≤ j ∧ j ≤ t + 1 ∧ vf j ≠ wf j := by
    intro X a b c d Kx Wx hX hWx hd
    obtain ⟨j, q, x, o, h1, h2, h3⟩ := (desB_iff hX.kn).1 hd
    rw [hX.words] at h1 h2
    obtain ⟨g1, g2⟩ := hWx j q x h1
    obtain ⟨_, g4⟩ := hWx j X.me o h2
    refine ⟨j, g1.1, g1.2, fun hvw => h3 ?_⟩
    rcases g2 with ⟨rfl, _⟩ | ⟨rfl, _⟩ <;> rcases g4 with ⟨rfl, _⟩ | ⟨rfl, _⟩ <;> first | rfl | exact hvw | exact hvw.symm
  have inQ : ∀ j q x, wdQ wf vf (t + 1) j q = some x → (1 ≤ j ∧ j ≤ t + 1) ∧ (x = wf j ∧ q = 0 ∨ x = vf j ∧ q = 1) := by
    intro j q x hx
    unfold wdQ at hx
    by_cases a : 1 ≤ j ∧ j ≤ t + 1
    · refine ⟨a, ?_⟩
      rw [decide_eq_true a.1, decide_eq_true a.2] at hx
      by_cases q0 : q = 0
      · subst q0; simp at hx; exact .inl ⟨hx.symm, rfl⟩
      · have h0 : (q == 0) = false := by simpa using q0
        rw [h0] at hx
        by_cases q1 : q = 1
        · subst q1; simp at hx; exact .inr ⟨hx.symm, rfl⟩
        · have h1 : (q == 1) = false := by simpa using q1
          rw [h1] at hx; simp at hx
    · have : (decide (1 ≤ j) && decide (j ≤ t + 1)) = false := by
        by_cases b : 1 ≤ j
        · rw [decide_eq_false (by omega : ¬ j ≤ t + 1)]; simp
        · rw [decide_eq_false b]; simp
      rw [this] at hx; simp at hx
  have inP : ∀ j q x, wdP wf vf (t + 1) j q = some x → (1 ≤ j ∧ j ≤ t + 1) ∧ (x = wf j ∧ q = 0 ∨ x = vf j ∧ q = 1) := by
    intro j q x hx
    refine inQ j q x ?_
    unfold wdP at hx
    unfold wdQ
    cases hb : (decide (1 ≤ j) && decide (j ≤ t + 1) && q == 0) with
    | true => rw [hb] at hx; exact hx
    | false =>
      rw [hb] at hx
      simp only [cond_false] at hx ⊢
      by_cases c : j < t + 1
      · rw [decide_eq_true c] at hx; rw [decide_eq_true (by omega : j ≤ t + 1)]; exact hx
      · rw [decide_eq_false c] at hx; simp at hx
  refine ⟨⟨tV, tU⟩, ⟨⟨tV1, V1.ok⟩, tU1, U1.ok⟩, ⟨sV1, sU1⟩, ⟨(sendB_ok V1.ok sV1).1, (sendB_ok U1.ok sU1).1⟩, ⟨(sendB_ok V1.ok sV1).2, (sendB_ok U1.ok sU1).2⟩, ⟨rU, rV⟩, ⟨⟨tV2, V2.ok⟩, tU2, U2.ok⟩, ⟨aV, aU⟩, ⟨nV, nU⟩, ⟨⟨tV4, V4.ok⟩, tU4, U4.ok⟩, ⟨sV4, rU5⟩, sendB_ok V4.ok sV4, ?_, out _ _ _ _ _ _ _ V5 inP, ?_⟩
  · refine ⟨out _ _ _ _ _ _ _ U6 inQ, ?_⟩
    rintro ⟨j, j1, j2, hne⟩
    refine (desB_iff U6.kn).2 ⟨j, 0, wf j, vf j, ?_, ?_, hne⟩
    · rw [U6.words]; unfold wdQ; rw [decide_eq_true j1, decide_eq_true j2]; rfl
    · rw [U6.words, U6.pm]; unfold wdQ; rw [decide_eq_true j1, decide_eq_true j2]; rfl
  · have a2 : t + 2 + 1 = t + 1 + 2 := by omega
    have V7 : Vw _ 0 (t + 1) (t + 1 + 2) _ _ _ := a2 ▸ V5
    have U7 : Vw _ 1 (t + 1) (t + 1 + 2) _ _ _ := a2 ▸ U6
    refine ⟨_, _, _, _, V7, U7, by rw [hmp]; omega, by rw [hmq]; unfold mx2; split <;> omega, fun j q j1 j2 hqq => ?_⟩
    by_cases c : j < t + 2
    · have := hK j q j1 c hqq
      simp [this.1, this.2]
    · have : j = t + 2 := by omega
      subst this
      have b1 : decide (hp ≤ t + 2) = true := decide_eq_true (by omega)
      have b2 : decide (hq ≤ t + 2) = true := decide_eq_true (by omega)
      have b3 : decide (t + 2 < t + 2 + 1) = true := decide_eq_true (by omega)
      have b4 : decide (2 ≤ t + 2) = true := decide_eq_true (by omega)
      rcases hqq with rfl | rfl
      · simp [b1, b2, b3, b4]
        exact .inr (.inl (by omega))
      · simp [b1, b2, b3, b4]
        exact .inl (by omega)
end Go.Eng.S25
