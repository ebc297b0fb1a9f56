/- Seat 25: what is sent is what is taken in; entries by their keys. Plain Lean. -/
import Derived.Test.YtodnecfgiimclaaS25P
set_option linter.unusedSimpArgs false
set_option linter.unusedVariables false
namespace Go.Eng.S25
/-! ### Entries by their keys -/
theorem kget_kput {α : Type} : ∀ (S : List ((Int × Int) × α)) (t p : Int) (v : α) (t' p' : Int), kget (kput S t p v) t' p' = bif t' == t && p' == p then some v else kget S t' p'
  | [], t, p, v, t', p' => rfl
  | e :: S, t, p, v, t', p' => by
    simp only [kput]
    cases hb : (t == e.1.1 && p == e.1.2) with
    | true =>
      show (bif t' == t && p' == p then some v else kget S t' p') = bif t' == t && p' == p then some v else bif t' == e.1.1 && p' == e.1.2 then some e.2 else kget S t' p'
      simp only [Bool.and_eq_true, beq_iff_eq] at hb
      rw [← hb.1, ← hb.2]
      cases t' == t && p' == p <;> rfl
    | false =>
      show (bif t' == e.1.1 && p' == e.1.2 then some e.2 else kget (kput S t p v) t' p') = bif t' == t && p' == p then some v else bif t' == e.1.1 && p' == e.1.2 then some e.2 else kget S t' p'
      rw [kget_kput S]
      cases h1 : (t' == t && p' == p) with
      | true =>
        simp only [Bool.and_eq_true, beq_iff_eq] at h1
        rw [h1.1, h1.2, hb]; rfl
      | false => rfl
/-- No key twice. -/
def KN {α : Type} (S : List ((Int × Int) × α)) : Prop := (S.map (·.1)).Nodup
theorem kput_keys {α : Type} : ∀ {S : List ((Int × Int) × α)} {t p : Int} {v : α} {k : Int × Int}, k ∈ (kput S t p v).map (·.1) → k ∈ S.map (·.1) ∨ k = (t, p)
  | [], t, p, v, k, h => by simp [kput] at h; exact .inr h
  | e :: S, t, p, v, k, h => by
    simp only [kput] at h
    cases hb : (t == e.1.1 && p == e.1.2) with
    | true =>
      rw [hb] at h
      rcases List.mem_cons.1 h with h | h
      · exact .inr h
      · exact .inl (List.mem_cons_of_mem _ h)
    | false =>
      rw [hb] at h
      rcases List.mem_cons.1 h with h | h
      · exact .inl (by rw [h]; exact List.mem_cons_self)
      · exact (kput_keys h).imp (List.mem_cons_of_mem _) id
theorem KN.put {α : Type} : ∀ {S : List ((Int × Int) × α)} {t p : Int} {v : α}, KN S → KN (kput S t p v)
  | [], t, p, v, _ => by simp [KN, kput]
  | e :: S, t, p, v, h => by
    unfold KN at h ⊢
    rw [List.map_cons, List.nodup_cons] at h
    simp only [kput]
    cases hb : (t == e.1.1 && p == e.1.2) with
    | true =>
      simp only [Bool.and_eq_true, beq_iff_eq] at hb
      simp only [cond_true, List.map_cons, List.nodup_cons]
      have : (t, p) = e.1 := by rw [hb.1, hb.2]
      rw [this]; exact h
    | false =>
      simp only [cond_false, List.map_cons, List.nodup_cons]
      refine ⟨fun hm => ?_, KN.put h.2⟩
      rcases kput_keys hm with hm | hm
      · exact h.1 hm
      · rw [hm] at hb; simp at hb
theorem kget_of_mem {α : Type} : ∀ {S : List ((Int × Int) × α)}, KN S → ∀ {x : (Int × Int) × α}, x ∈ S → kget S x.1.1 x.1.2 = some x.2
  | e :: S, h, x, hx => by
    unfold KN at h
    rw [List.map_cons, List.nodup_cons] at h
    simp only [kget]
    rcases List.mem_cons.1 hx with rfl | hx
    · simp
    · cases hb : (x.1.1 == e.1.1 && x.1.2 == e.1.2) with
      | true =>
        simp only [Bool.and_eq_true, beq_iff_eq] at hb
        have : x.1 = e.1 := Prod.ext hb.1 hb.2
        exact absurd (List.mem_map.2 ⟨x, hx, this⟩) h.1
      | false => exact kget_of_mem h.2 hx
/-- Out of step, by keys. -/
theorem desB_iff {P : Peer} (h : KN P.words) : desB P = true ↔ ∃ t q w o, kget P.words t q = some w ∧ kget P.words t P.me = some o ∧ o ≠ w := by
  unfold desB
  rw [List.any_eq_true]
  constructor
  · rintro ⟨x, hx, hb⟩
    unfold badW at hb
    cases ho : kget P.words x.1.1 P.me with
    | none => rw [ho] at hb; cases hb
    | some o =>
      rw [ho] at hb
      exact ⟨x.1.1, x.1.2, x.2, o, kget_of_mem h hx, ho, by simpa using hb⟩
  · rintro ⟨t, q, w, o, h1, h2, h3⟩
    refine ⟨_, kget_mem h1, ?_⟩
    unfold badW
    simp only [h2]
    simpa using h3
/-! ### Numbers there and back -/
theorem numL_leB : ∀ (k : Nat) (v : Int), 0 ≤ v → v < 256 ^ k → numL (leB k v) = v
  | 0, v, h0, h1 => by
    have : v < 1 := by simpa using h1
    show (0 : Int) = v
    omega
  | k + 1, v, h0, h1 => by
    rw [leB, numL, numL_leB k (v / 256) (by omega) (by
      rw [Int.pow_succ] at h1
      exact Int.ediv_lt_of_lt_mul (by omega) h1)]
    omega
/-! ### What is sent is what is taken in -/
def setsL (P : Peer) : Int → Nat → List (List Int)
  | _, 0 => []
  | t, k + 1 => setOf P t :: setsL P (t + 1) k
theorem setsL_len (P : Peer) : ∀ (k : Nat) (t : Int), (setsL P t k).length = k
  | 0, _ => rfl
  | k + 1, t => by rw [setsL, List.length_cons, setsL_len]
theorem setsL_get (P : Peer) : ∀ (k : Nat) (t : Int) (i : Nat), i < k → (setsL P t k).getD i [] = setOf P (t + i)
  | 0, _, i, h => by omega
  | k + 1, t, 0, _ => by
    show setOf P t = setOf P (t + ((0 : Nat) : Int))
    congr 1; omega
  | k + 1, t, i + 1, h => by
    show (setsL P (t + 1) k).getD i [] = _
    rw [setsL_get P k (t + 1) i (by omega)]
    congr 1; omega
theorem cutA_step (k : Nat) {R : List Int} (acc : List (List Int)) {n : Int} (h1 : 2 ≤ R.length) (h2 : numL (R.take 2) = n) (h3 : n ≤ 704) (h4 : 2 + n ≤ R.length) : cutA (k + 1) R acc = cutA k (R.drop (2 + n.toNat)) (acc ++ [(R.drop 2).take n.toNat]) := by
  subst h2
  show (bif Nat.blt R.length 2 then ([], 2) else bif decide (numL (R.take 2) > 704) then ([], 3) else bif decide ((R.length : Int) < 2 + numL (R.take 2)) then ([], 2) else
      cutA k (R.drop (2 + (numL (R.take 2)).toNat)) (acc ++ [(R.drop 2).take (numL (R.take 2)).toNat])) = _
  rw [nblt_no (by omega), decide_eq_false (by omega), decide_eq_false (by omega)]
  rfl
theorem cutA_sets {P : Peer} (h : OkP P) : ∀ (k : Nat) (t : Int) (acc : List (List Int)), cutA k (setsB P t k) acc = (acc ++ setsL P t k, 0)
  | 0, t, acc => by
    show (acc, (0 : Int)) = (acc ++ [], 0)
    rw [List.append_nil]
  | k + 1, t, acc => by
    have hS := (setOf_ok h t).1
    have e0 : setsB P t (k + 1) = leB 2 (setOf P t).length ++ setOf P t ++ setsB P (t + 1) k := rfl
    have e1 : setsL P t (k + 1) = setOf P t :: setsL P (t + 1) k := rfl
    rw [e0, e1]
    generalize hSS : setOf P t = S at hS
    have hlen : (leB 2 (S.length : Int) ++ S ++ setsB P (t + 1) k).length = 2 + S.length + (setsB P (t + 1) k).length := by
      simp only [List.length_append, leB_len]
    have ht : (leB 2 (S.length : Int) ++ S ++ setsB P (t + 1) k).take 2 = leB 2 (S.length : Int) := by
      rw [List.append_assoc, List.take_append_of_le_length (by rw [leB_len]; omega), List.take_of_length_le (by rw [leB_len]; omega)]
    have hn : numL (leB 2 (S.length : Int)) = S.length := numL_leB 2 _ (by omega) (by show (S.length : Int) < 65536; omega)
    have hd2 : (leB 2 (S.length : Int) ++ S ++ setsB P (t + 1) k).drop 2 = S ++ setsB P (t + 1) k := by
      rw [List.append_assoc, List.drop_append_of_le_length (by rw [leB_len]; omega), List.drop_of_length_le (by rw [leB_len]; omega), List.nil_append]
    rw [cutA_step k acc (n := S.length) (by omega) (by rw [ht, hn]) (by omega) (by omega), Int.toNat_natCast, ← List.drop_drop, hd2, List.take_left, List.drop_left, cutA_sets h k]
    simp
theorem send_parts {P : Peer} (h : OkP P) {to : Int} (hT : 0 ≤ P.turn ∧ P.turn ≤ 1000000) (he : sendE P to = 0) :
    cutF (sendB P to) = (setsL P (P.hd to.toNat) (cntOf P to).toNat, 0) ∧ mFrom (sendB P to) = P.me ∧ mTo (sendB P to) = to ∧ mTurn (sendB P to) = P.turn ∧ mWord (sendB P to) = wordOf P P.turn ∧ mFirst (sendB P to) = P.hd to.toNat := by
  have ho : otherB P to = true := by
    unfold sendE at he
    cases ho : otherB P to with
    | true => rfl
    | false => rw [ho] at he; cases he
  have hc : cntOf P to ≤ 255 := by
    unfold sendE at he
    rw [ho] at he
    by_cases hc : cntOf P to ≤ 255
    · exact hc
    · rw [decide_eq_true (by omega : cntOf P to > 255)] at he; cases he
  have eB : sendB P to = headB P to ++ setsB P (P.hd to.toNat) (cntOf P to).toNat := by
    unfold sendB
    rw [he]; rfl
  rw [eB]
  have hh := h.hd to.toNat (by
    have := h.n
    unfold otherB at ho
    simp only [Bool.and_eq_true, decide_eq_true_eq] at ho
    omega)
  have hw := wordOf_ok h P.turn
  refine ⟨?_, rfl, rfl, ?_, ?_, ?_⟩
  · unfold cutF
    have hl : (headB P to).length = 19 := (headB_ok h ho hc).1
    rw [nblt_no (by rw [List.length_append]; omega)]
    have e1 : (headB P to ++ setsB P (P.hd to.toNat) (cntOf P to).toNat).getD 18 0 = cntOf P to := rfl
    have e2 : (headB P to ++ setsB P (P.hd to.toNat) (cntOf P to).toNat).drop 19 = setsB P (P.hd to.toNat) (cntOf P to).toNat := rfl
    rw [e1, e2]
    exact cutA_sets h _ _ _
  · show numL (leB 4 P.turn) = P.turn
    exact numL_leB 4 _ hT.1 (by show P.turn < 4294967296; omega)
  · show numL (leB 8 (wordOf P P.turn)) = _
    exact numL_leB 8 _ hw.1 (by show wordOf P P.turn < 18446744073709551616; omega)
  · show numL (leB 4 (P.hd to.toNat)) = _
    exact numL_leB 4 _ hh.1 (by show P.hd to.toNat < 4294967296; omega)
theorem sendE_ok {P : Peer} {to : Int} (h1 : 0 ≤ to ∧ to < P.n) (h2 : to ≠ P.me) (h3 : P.iss - P.hd to.toNat ≤ 255) : sendE P to = 0 := by
  unfold sendE otherB
  rw [decide_eq_true h1.1, decide_eq_true h1.2, show (to == P.me) = false by simpa using h2]
  simp only [Bool.and_self, Bool.not_false, Bool.not_true, cond_false]
  rw [decide_eq_false]
  · rfl
  · unfold cntOf mx2
    split <;> omega
theorem cnt_iss {P : Peer} {to : Int} : ((cntOf P to).toNat : Int) = cntOf P to := by
  unfold cntOf mx2
  split <;> omega
/-- A message that a peer sent is taken in by the one to whom it was sent. -/
theorem rec_send {P Q : Peer} (hP : OkP P) (hQ : OkP Q) (hT : 0 ≤ P.turn ∧ P.turn ≤ 1000000) (hn : P.n = Q.n) (he : sendE P Q.me = 0) (hne : P.me ≠ Q.me) (hf : P.iss ≤ Q.turn + 16) : recE Q (sendB P Q.me) = 0 := by
  obtain ⟨e1, e2, e3, e4, e5, e6⟩ := send_parts hP hT he
  unfold recE
  rw [e1, e2, e3, e6]
  have a1 : decide (P.me ≥ Q.n) = false := decide_eq_false (by have := hP.me; omega)
  have a2 : (P.me == Q.me) = false := by simpa using hne
  have a3 : (Q.me != Q.me) = false := by simp
  rw [a1, a2, a3, setsL_len, cnt_iss]
  simp only [bne_self_eq_false, cond_false, Bool.or_self]
  have : (Nat.blt 0 (cntOf P Q.me).toNat && decide (P.hd Q.me.toNat + cntOf P Q.me - 1 ≥ Q.turn + 16)) = false := by
    by_cases h0 : 0 < (cntOf P Q.me).toNat
    · rw [nblt_yes h0, Bool.true_and, decide_eq_false]
      have h1 := @cnt_iss P Q.me
      unfold cntOf mx2 at h1 ⊢
      unfold cntOf mx2 at h0
      split <;> rename_i hx
      · omega
      · rw [if_neg hx] at h0; omega
    · rw [nblt_no h0, Bool.false_and]
  rw [this]; rfl
/-- Which sets are known behind a message. -/
theorem recS_get (q first : Int) (Ls : List (List Int)) (S : List ((Int × Int) × List Int)) : ∀ (k : Nat) (j q' : Int),
    kget (recS q first Ls S k) j q' = bif q' == q && decide (first ≤ j) && decide (j < first + k) && !(kn S j q) then some (Ls.getD (j - first).toNat []) else kget S j q'
  | 0, j, q' => by
    have : (q' == q && decide (first ≤ j) && decide (j < first + ((0 : Nat) : Int)) && !(kn S j q)) = false := by
      by_cases h : first ≤ j
      · rw [decide_eq_false (by omega : ¬ j < first + ((0 : Nat) : Int))]; simp
      · rw [decide_eq_false h]; simp
    rw [this]; rfl
  | k + 1, j, q' => by
    have hk : kn (recS q first Ls S k) (first + (k : Nat)) q = kn S (first + (k : Nat)) q := by
      unfold kn
      rw [recS_get q first Ls S k, decide_eq_false (by omega : ¬ first + ((k : Nat) : Int) < first + ((k : Nat) : Int))]
      simp
    simp only [recS, hk]
    by_cases hj : j = first + (k : Nat) ∧ q' = q
    · obtain ⟨rfl, rfl⟩ := hj
      have h1 : decide (first ≤ first + ((k : Nat) : Int)) = true := decide_eq_true (by omega)
      have h2 : decide (first + ((k : Nat) : Int) < first + ((k + 1 : Nat) : Int)) = true := decide_eq_true (by omega)
      have h3 : decide (first + ((k : Nat) : Int) < first + ((k : Nat) : Int)) = false := decide_eq_false (by omega)
      have h4 : (first + ((k : Nat) : Int) - first).toNat = k := by omega
      rw [h1, h2, h4]
      cases hb : kn S (first + (k : Nat)) q' with
      | true =>
        simp only [cond_true]
        rw [recS_get q' first Ls S k, h3]
        simp
      | false =>
        simp only [cond_false]
        rw [kget_kput]
        simp
    · have h2 : (q' == q && decide (first ≤ j) && decide (j < first + ((k + 1 : Nat) : Int)) && !(kn S j q)) = (q' == q && decide (first ≤ j) && decide (j < first + ((k : Nat) : Int)) && !(kn S j q)) := by
        by_cases hq : q' = q
        · have hjne : j ≠ first + (k : Nat) := fun h => hj ⟨h, hq⟩
          have : decide (j < first + ((k + 1 : Nat) : Int)) = decide (j < first + ((k : Nat) : Int)) := by
            by_cases hlt : j < first + ((k : Nat) : Int)
            · rw [decide_eq_true hlt, decide_eq_true (by omega)]
            · rw [decide_eq_false hlt, decide_eq_false (by omega)]
          rw [this]
        · have : (q' == q) = false := by simpa using hq
          rw [this]; simp
      rw [h2]
      cases hb : kn S (first + (k : Nat)) q with
      | true => exact recS_get q first Ls S k j q'
      | false =>
        simp only [cond_false]
        rw [kget_kput]
        have : (j == first + ((k : Nat) : Int) && q' == q) = false := by
          cases h : (j == first + ((k : Nat) : Int) && q' == q) with
          | false => rfl
          | true => simp only [Bool.and_eq_true, beq_iff_eq] at h; exact absurd h hj
        rw [this]
        exact recS_get q first Ls S k j q'
theorem recW_get (P : Peer) (L : List Int) (j q : Int) : kget (recW P L) j q = bif j == mTurn L && q == mFrom L && (!(kget P.words (mTurn L) (mFrom L)).isSome && decide (mTurn L > 0) && (mWord L != 0)) then some (mWord L) else kget P.words j q := by
  unfold recW
  cases hb : (!(kget P.words (mTurn L) (mFrom L)).isSome && decide (mTurn L > 0) && (mWord L != 0)) with
  | true => rw [cond_true, kget_kput, Bool.and_true]
  | false => rw [cond_false, Bool.and_false]; rfl
theorem recW_kn {P : Peer} (L : List Int) (h : KN P.words) : KN (recW P L) := by
  unfold recW
  cases (!(kget P.words (mTurn L) (mFrom L)).isSome && decide (mTurn L > 0) && (mWord L != 0)) with
  | true => exact h.put
  | false => exact h
/-! ### Peers stay peers -/
theorem issP_ok {P : Peer} {L : List Int} (h : OkP P) (hL : IsU L) : OkP (issP P L) := by
  unfold issP
  cases he : issE P L.length == 0 with
  | false => exact h
  | true =>
    refine ⟨h.n, h.me, h.hd, fun x hx => ?_, h.words⟩
    rcases kput_mem hx with hx | hx
    · exact h.sets x hx
    · rw [hx]
      refine ⟨?_, hL⟩
      unfold issE at he
      by_cases h7 : (L.length : Int) > 704
      · rw [decide_eq_true h7] at he; cases he
      · omega
theorem advP_ok {P : Peer} (h : OkP P) : OkP (advP P) := by
  unfold advP
  cases advK P P.n.toNat with
  | true => exact ⟨h.n, h.me, h.hd, h.sets, h.words⟩
  | false => exact h
theorem noteP_ok {P : Peer} {w : Int} (h : OkP P) (hw : 0 ≤ w ∧ w ≤ 18446744073709551615) : OkP (noteP P w) := by
  unfold noteP
  cases noteE P w == 0 with
  | false => exact h
  | true =>
    refine ⟨h.n, h.me, h.hd, h.sets, fun x hx => ?_⟩
    rcases kput_mem hx with hx | hx
    · exact h.words x hx
    · rw [hx]; exact hw
end Go.Eng.S25
