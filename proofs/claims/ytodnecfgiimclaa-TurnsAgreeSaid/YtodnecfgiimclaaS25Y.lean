/- Seat 25: one of so many peers, as far as it goes. Plain Lean. -/
import Derived.Test.YtodnecfgiimclaaS25T
set_option linter.unusedSimpArgs false
set_option linter.unusedVariables false
namespace Go.Eng.S25
theorem nat_beq (a b : Nat) : ((a : Int) == (b : Int)) = (a == b) := by
  by_cases h : a = b
  · subst h; rw [beq_self_eq_true, beq_self_eq_true]
  · rw [beq_eq_false_iff_ne.2 h, beq_eq_false_iff_ne.2 (by omega)]
/-- One of n peers, to whom no words came. -/
structure VN (n : Nat) (P : Peer) (me : Nat) (t i : Int) (h : Nat → Int) (S : Int → Nat → Option (List Int)) : Prop where
  ok : OkP P
  pm : P.me = (me : Nat)
  pn : P.n = (n : Nat)
  pt : P.turn = t
  pi : P.iss = i
  ph : ∀ q, q < n → q ≠ me → P.hd q = h q
  pw : P.words = []
  sets : ∀ j (q : Nat), q < n → kget P.sets j (q : Int) = S j q
theorem vn_new {n me : Nat} (hn : 2 ≤ n ∧ n ≤ 8) (hme : me < n) : VN n (newP (me : Nat) (n : Nat)) me 0 2 (fun _ => 0) (fun _ _ => none) :=
  ⟨⟨⟨by show (2 : Int) ≤ (n : Nat); omega, by show ((n : Nat) : Int) ≤ 8; omega⟩, ⟨by show (0 : Int) ≤ (me : Nat); omega, by show ((me : Nat) : Int) < (n : Nat); omega⟩, fun i hi => ⟨by show (0 : Int) ≤ 0; omega, by show (0 : Int) ≤ _; omega⟩, fun x hx => (by cases hx), fun x hx => by cases hx⟩, rfl, rfl, rfl, rfl, fun _ _ _ => rfl, rfl, fun _ _ _ => rfl⟩
/-- A message from one to another, as it is read. -/
structure Msg (M : List Int) (p to : Nat) (t f : Int) (Ls : List (List Int)) : Prop where
  u : IsU M
  len : 19 ≤ M.length ∧ M.length ≤ 100000000
  cut : cutF M = (Ls, 0)
  frm : mFrom M = (p : Nat)
  to : mTo M = (to : Nat)
  turn : mTurn M = t
  word : mWord M = 0
  first : mFirst M = f
variable {n me : Nat} {P : Peer} {t i : Int} {h : Nat → Int} {S : Int → Nat → Option (List Int)}
theorem VN.okT (V : VN n P me t i h S) (h1 : 0 ≤ t ∧ t ≤ 1000000) (h2 : 0 ≤ i ∧ i ≤ 1000000) : okT P := by
  unfold Go.Eng.S25.okT
  rw [V.pt, V.pi]
  exact ⟨h1, h2.1, h2.2⟩
theorem VN.iss (V : VN n P me t i h S) {L : List Int} (hL : IsU L) (h7 : L.length ≤ 704) (hi : i < t + 8) : issE P L.length = 0 ∧ VN n (issP P L) me t (i + 1) h (fun j q => bif j == i && q == me then some L else S j q) := by
  have e : issE P L.length = 0 := by
    unfold issE
    rw [decide_eq_false (by omega), decide_eq_false (by rw [V.pi, V.pt]; omega)]
    rfl
  refine ⟨e, ?_⟩
  have hok := issP_ok (L := L) V.ok hL
  rw [issP_eq e] at hok ⊢
  refine ⟨hok, V.pm, V.pn, V.pt, by show P.iss + 1 = _; rw [V.pi], V.ph, V.pw, fun j q hq => ?_⟩
  show kget (kput P.sets P.iss P.me L) j q = _
  rw [kget_kput, V.pi, V.pm, V.sets j q hq]
  rw [nat_beq q me]
theorem VN.iss_no (V : VN n P me t i h S) {m : Nat} (hi : ¬ (i < t + 8 ∧ m ≤ 704)) : issE P m ≠ 0 := by
  unfold issE
  by_cases h1 : (m : Int) > 704
  · rw [decide_eq_true h1]; show (1 : Int) ≠ 0; decide
  · rw [decide_eq_false h1, decide_eq_true (by rw [V.pi, V.pt]; omega)]; show (5 : Int) ≠ 0; decide
theorem issP_no {P : Peer} {L : List Int} (h : issE P L.length ≠ 0) : issP P L = P := by
  unfold issP
  have : (issE P L.length == 0) = false := by simpa using h
  rw [this]; rfl
theorem VN.send_me (V : VN n P me t i h S) : sendE P (me : Nat) = 4 := by
  unfold sendE otherB
  rw [V.pm]
  simp
theorem VN.send (V : VN n P me t i h S) {to : Nat} (hto : to < n) (hne : to ≠ me) (hi : i - h to ≤ 255) (ht : 0 ≤ t ∧ t ≤ 1000000) :
    sendE P (to : Nat) = 0 ∧ ∃ Ls, Msg (sendB P (to : Nat)) me to t (h to) Ls ∧ (Ls.length : Int) = mx2 0 (i - h to) ∧ ∀ x : Nat, x < Ls.length → Ls.getD x [] = (S (h to + (x : Nat)) me).getD [] := by
  have hh : P.hd ((to : Nat) : Int).toNat = h to := by rw [Int.toNat_natCast]; exact V.ph to hto hne
  have hs : sendE P (to : Nat) = 0 := sendE_ok ⟨by omega, by rw [V.pn]; omega⟩ (by rw [V.pm]; omega) (by rw [V.pi, hh]; exact hi)
  have hT : 0 ≤ P.turn ∧ P.turn ≤ 1000000 := by rw [V.pt]; exact ht
  obtain ⟨e1, e2, e3, e4, e5, e6⟩ := send_parts V.ok hT hs
  have hok := sendB_ok V.ok hs
  refine ⟨hs, _, ⟨hok.1, ⟨cutF_len (by rw [e1]), hok.2⟩, e1, by rw [e2, V.pm], e3, by rw [e4, V.pt], ?_, by rw [e6, hh]⟩, ?_, fun x hx => ?_⟩
  · rw [e5]
    unfold wordOf
    rw [V.pw]
    rfl
  · rw [setsL_len, cnt_iss]
    unfold cntOf
    rw [V.pi, hh]
  · rw [setsL_len] at hx
    rw [setsL_get P _ _ _ hx, hh]
    unfold setOf
    rw [V.pm, V.sets _ me (by have := V.ok.me; rw [V.pm, V.pn] at this; omega)]
theorem VN.recv (V : VN n P me t i h S) {M : List Int} {p : Nat} {t' f : Int} {Ls : List (List Int)} (hM : Msg M p me t' f Ls) (hp : p < n) (hne : p ≠ me) (hf : Ls = [] ∨ f + Ls.length ≤ t + 16) :
    recE P M = 0 ∧ VN n (recP P M) me t i (fun q => bif q == p then mx2 (h q) t' else h q) (fun j q => bif q == p && decide (f ≤ j) && decide (j < f + Ls.length) && !(decide (j < 2) || (S j p).isSome) then some (Ls.getD (j - f).toNat []) else S j q) := by
  have e : recE P M = 0 := by
    unfold recE
    rw [hM.cut, hM.frm, hM.to, hM.first, V.pn, V.pm, V.pt]
    have a1 : decide (((p : Nat) : Int) ≥ (n : Nat)) = false := decide_eq_false (by omega)
    have a2 : (((p : Nat) : Int) == (me : Nat)) = false := by simp; omega
    have a3 : (((me : Nat) : Int) != (me : Nat)) = false := by simp
    rw [a1, a2, a3]
    simp only [bne_self_eq_false, cond_false, Bool.or_self]
    have : (Nat.blt 0 Ls.length && decide (f + (Ls.length : Int) - 1 ≥ t + 16)) = false := by
      by_cases h0 : 0 < Ls.length
      · rw [nblt_yes h0, Bool.true_and, decide_eq_false]
        rcases hf with rfl | hf
        · simp at h0
        · omega
      · rw [nblt_no h0, Bool.false_and]
    rw [this]; rfl
  refine ⟨e, ?_⟩
  have hok := recP_ok V.ok hM.u
  rw [recP_eq e] at hok ⊢
  refine ⟨hok, V.pm, V.pn, V.pt, V.pi, fun q hq hqm => ?_, ?_, fun j q hq => ?_⟩
  · show recH P M q = _
    unfold recH
    rw [hM.frm, hM.turn, Int.toNat_natCast, V.ph q hq hqm]
  · show recW P M = []
    unfold recW
    rw [hM.word]
    simp [V.pw]
  · show kget (recS (mFrom M) (mFirst M) (cutF M).1 P.sets (cutF M).1.length) j q = _
    rw [recS_get, hM.frm, hM.first, hM.cut, V.sets j q hq]
    have hk : Go.Eng.S25.kn P.sets j (p : Nat) = (decide (j < 2) || (S j p).isSome) := by unfold Go.Eng.S25.kn; rw [V.sets j p hp]
    rw [hk]
    rw [nat_beq q p]
theorem advK_iff {P : Peer} : ∀ {k : Nat}, advK P k = true ↔ ∀ q, q < k → knownB P P.turn (q : Nat) = true
  | 0 => ⟨fun _ q hq => absurd hq (Nat.not_lt_zero q), fun _ => rfl⟩
  | k + 1 => by
    show (advK P k && knownB P P.turn (k : Nat)) = true ↔ _
    rw [Bool.and_eq_true, advK_iff]
    constructor
    · rintro ⟨h1, h2⟩ q hq
      by_cases e : q = k
      · subst e; exact h2
      · exact h1 q (by omega)
    · exact fun h => ⟨fun q hq => h q (by omega), h k (by omega)⟩
theorem advL_get {P : Peer} : ∀ {k q : Nat}, q < k → (advL P k).getD q [] = knownL P P.turn (q : Nat)
  | 0, q, hq => absurd hq (Nat.not_lt_zero q)
  | k + 1, q, hq => by
    show (advL P k ++ [knownL P P.turn (k : Nat)]).getD q [] = _
    rw [List.getD_eq_getElem?_getD]
    by_cases e : q < k
    · rw [List.getElem?_append_left (by rw [advL_len]; exact e), ← List.getD_eq_getElem?_getD]
      exact advL_get e
    · have : q = k := by omega
      subst this
      rw [List.getElem?_append_right (by rw [advL_len]; omega), advL_len, Nat.sub_self]
      rfl
theorem VN.known (V : VN n P me t i h S) {q : Nat} (hq : q < n) : knownB P P.turn (q : Nat) = (decide (t < 2) || (S t q).isSome) := by
  unfold knownB
  rw [V.pt, V.sets t q hq]
theorem VN.adv (V : VN n P me t i h S) (hk : t < 2 ∨ ∀ q, q < n → (S t q).isSome = true) :
    advE P = 0 ∧ VN n (advP P) me (t + 1) i h S ∧ (advS P).length = n ∧ ∀ q, q < n → (advS P).getD q [] = bif decide (t < 2) then [] else (S t q).getD [] := by
  have hn : P.n.toNat = n := by rw [V.pn, Int.toNat_natCast]
  have e : advK P P.n.toNat = true := by
    rw [hn, advK_iff]
    intro q hq
    rw [V.known hq]
    rcases hk with hk | hk
    · rw [decide_eq_true hk]; rfl
    · rw [hk q hq]; simp
  have hok := advP_ok V.ok
  refine ⟨by unfold advE; rw [e]; rfl, ?_, ?_, fun q hq => ?_⟩
  · unfold advP at hok ⊢
    rw [e] at hok ⊢
    exact ⟨hok, V.pm, V.pn, by show P.turn + 1 = _; rw [V.pt], V.pi, V.ph, V.pw, V.sets⟩
  · unfold advS; rw [e, hn]; exact advL_len P n
  · unfold advS
    rw [e, hn]
    show (advL P n).getD q [] = _
    rw [advL_get hq]
    unfold knownL
    rw [V.pt, V.sets t q hq]
theorem VN.adv_no (V : VN n P me t i h S) (hk : ¬ (t < 2 ∨ ∀ q, q < n → (S t q).isSome = true)) : advE P = 6 ∧ advP P = P := by
  have hn : P.n.toNat = n := by rw [V.pn, Int.toNat_natCast]
  have e : advK P P.n.toNat = false := by
    cases hb : advK P P.n.toNat with
    | false => rfl
    | true =>
      exfalso
      rw [hn, advK_iff] at hb
      refine hk ?_
      by_cases h2 : t < 2
      · exact .inl h2
      · refine .inr fun q hq => ?_
        have := hb q hq
        rw [V.known hq, decide_eq_false h2] at this
        simpa using this
  exact ⟨by unfold advE; rw [e]; rfl, by unfold advP; rw [e]; rfl⟩
theorem VN.congr {i2 t2 : Int} {h2 : Nat → Int} {S2 : Int → Nat → Option (List Int)} (V : VN n P me t i h S) (ht : t = t2) (hi : i = i2) (hh : ∀ q, q < n → q ≠ me → h q = h2 q) (hS : ∀ j q, q < n → S j q = S2 j q) : VN n P me t2 i2 h2 S2 := by
  subst ht; subst hi
  exact ⟨V.ok, V.pm, V.pn, V.pt, V.pi, fun q h1 h3 => (V.ph q h1 h3).trans (hh q h1 h3), V.pw, fun j q hq => (V.sets j q hq).trans (hS j q hq)⟩
end Go.Eng.S25
