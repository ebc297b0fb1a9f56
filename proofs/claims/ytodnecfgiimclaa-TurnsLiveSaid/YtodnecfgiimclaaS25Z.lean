/- Seat 25: rounds of peers that all go on alike. Plain Lean. -/
import Derived.Test.YtodnecfgiimclaaS25Y
set_option linter.unusedSimpArgs false
set_option linter.unusedVariables false
namespace Go.Eng.S25
/-- One of n peers in turn T: it has issued below I, of the others it knows all below J (and, of those in G, all below T + 8). -/
def VR (n : Nat) (P : Peer) (me : Nat) (T I J : Int) (G : Nat → Prop) : Prop := ∃ h S, VN n P me T I h S ∧ (∀ q, q < n → q ≠ me → h q ≤ J) ∧ ∀ (j : Int) (q : Nat), q < n → 2 ≤ j → ((S j q).isSome = true ↔ (q = me ∧ j < I) ∨ (q ≠ me ∧ (j < J ∨ (G q ∧ j < T + 8))))
def VL (n : Nat) (P : Peer) (me : Nat) (T I J : Int) : Prop := ∃ h S, VN n P me T I h S ∧ (∀ q, q < n → q ≠ me → h q ≤ J) ∧ ∀ (j : Int) (q : Nat), q < n → 2 ≤ j → ((S j q).isSome = true ↔ (q = me ∧ j < I) ∨ (q ≠ me ∧ j < J))
def LM (M : List Int) (p q : Nat) (T J : Int) : Prop := ∃ f Ls, Msg M p q T f Ls ∧ f ≤ J ∧ f + (Ls.length : Int) = T + 8
variable {n me : Nat} {P : Peer} {T I J : Int}
theorem VL.ok (V : VL n P me T I J) : OkP P := by obtain ⟨h, S, V, _⟩ := V; exact V.ok
theorem VL.okT (V : VL n P me T I J) (h1 : 0 ≤ T ∧ T ≤ 1000000) (h2 : 0 ≤ I ∧ I ≤ 1000000) : okT P := by obtain ⟨h, S, V, _⟩ := V; exact V.okT h1 h2
theorem vl_new (hn : 2 ≤ n ∧ n ≤ 8) (hme : me < n) : VL n (newP (me : Nat) (n : Nat)) me 0 2 2 := by
  refine ⟨_, _, vn_new hn hme, fun q _ _ => by omega, fun j q _ hj => ?_⟩
  constructor
  · intro h; cases h
  · intro h; omega
theorem VL.iss (V : VL n P me T I J) {L : List Int} (hL : IsU L) (h7 : L.length ≤ 704) (hI : 2 ≤ I) : (issE P L.length = 0 ↔ I < T + 8) ∧ (I < T + 8 → VL n (issP P L) me T (I + 1) J) ∧ (¬ I < T + 8 → issP P L = P) := by
  obtain ⟨h, S, V, hh, hS⟩ := V
  by_cases hi : I < T + 8
  · obtain ⟨e, V1⟩ := V.iss hL h7 hi
    refine ⟨⟨fun _ => hi, fun _ => e⟩, fun _ => ⟨_, _, V1, hh, fun j q hq hj => ?_⟩, fun h => absurd hi h⟩
    by_cases hb : j = I ∧ q = me
    · obtain ⟨rfl, rfl⟩ := hb
      rw [beq_self_eq_true, beq_self_eq_true]
      exact ⟨fun _ => .inl ⟨rfl, by omega⟩, fun _ => rfl⟩
    · have : (j == I && q == me) = false := by
        cases h : (j == I && q == me) with
        | false => rfl
        | true => simp only [Bool.and_eq_true, beq_iff_eq] at h; exact absurd h hb
      rw [this, cond_false, hS j q hq hj]
      constructor
      · rintro (⟨h1, h2⟩ | h1)
        · exact .inl ⟨h1, by omega⟩
        · exact .inr h1
      · rintro (⟨h1, h2⟩ | h1)
        · exact .inl ⟨h1, by have : j ≠ I := fun e => hb ⟨e, h1⟩; omega⟩
        · exact .inr h1
  · have e := V.iss_no (m := L.length) fun hh => hi hh.1
    exact ⟨⟨fun h => absurd h e, fun h => absurd h hi⟩, fun h => absurd h hi, fun _ => issP_no e⟩
theorem VL.send_me (V : VL n P me T I J) : sendE P (me : Nat) = 4 := by obtain ⟨h, S, V, _⟩ := V; exact V.send_me
theorem VL.send (V : VL n P me T (T + 8) J) {to : Nat} (hto : to < n) (hne : to ≠ me) (hT : 0 ≤ T ∧ T ≤ 200) (hJ : J ≤ T + 8) : sendE P (to : Nat) = 0 ∧ LM (sendB P (to : Nat)) me to T J := by
  obtain ⟨h, S, V, hh, _⟩ := V
  have h0 : 0 ≤ h to := by
    rw [← V.ph to hto hne]
    exact (V.ok.hd to (by have := V.ok.n; rw [V.pn] at this; omega)).1
  have h1 := hh to hto hne
  obtain ⟨e, Ls, M, hl, _⟩ := V.send hto hne (by omega) (by omega)
  refine ⟨e, _, Ls, M, h1, ?_⟩
  rw [hl]
  unfold mx2
  split <;> omega
theorem VL.vr (V : VL n P me T I J) (G : Nat → Prop) (hG : ∀ q, ¬ G q) : VR n P me T I J G := by
  obtain ⟨h, S, V, hh, hS⟩ := V
  refine ⟨h, S, V, hh, fun j q hq hj => ?_⟩
  rw [hS j q hq hj]
  constructor
  · rintro (h | ⟨h1, h2⟩)
    · exact .inl h
    · exact .inr ⟨h1, .inl h2⟩
  · rintro (h | ⟨h1, h2 | h2⟩)
    · exact .inl h
    · exact .inr ⟨h1, h2⟩
    · exact absurd h2.1 (hG q)
theorem VR.none {G : Nat → Prop} (V : VR n P me T I J G) (hG : ∀ q, ¬ G q) : VL n P me T I J := by
  obtain ⟨h, S, V, hh, hS⟩ := V
  refine ⟨h, S, V, hh, fun j q hq hj => ?_⟩
  rw [hS j q hq hj]
  constructor
  · rintro (h | ⟨h1, h2 | h2⟩)
    · exact .inl h
    · exact .inr ⟨h1, h2⟩
    · exact absurd h2.1 (hG q)
  · rintro (h | ⟨h1, h2⟩)
    · exact .inl h
    · exact .inr ⟨h1, .inl h2⟩
theorem VR.all {G : Nat → Prop} (V : VR n P me T I J G) (hJ : J ≤ T + 8) (hG : ∀ q, q < n → q ≠ me → G q) : VL n P me T I (T + 8) := by
  obtain ⟨h, S, V, hh, hS⟩ := V
  refine ⟨h, S, V, fun q h1 h2 => by have := hh q h1 h2; omega, fun j q hq hj => ?_⟩
  rw [hS j q hq hj]
  constructor
  · rintro (h | ⟨h1, h2 | h2⟩)
    · exact .inl h
    · exact .inr ⟨h1, by omega⟩
    · exact .inr ⟨h1, h2.2⟩
  · rintro (h | ⟨h1, h2⟩)
    · exact .inl h
    · exact .inr ⟨h1, .inr ⟨hG q hq h1, h2⟩⟩
theorem VR.recv {G G' : Nat → Prop} (V : VR n P me T (T + 8) J G) {M : List Int} {p : Nat} (hM : LM M p me T J) (hp : p < n) (hne : p ≠ me) (hJ : T ≤ J ∧ J ≤ T + 8) (h1 : ∀ q, G q → G' q) (h2 : G' p) (h3 : ∀ q, G' q → G q ∨ q = p) :
    recE P M = 0 ∧ VR n (recP P M) me T (T + 8) J G' := by
  obtain ⟨h, S, V, hh, hS⟩ := V
  obtain ⟨f, Ls, hM, hf, hl⟩ := hM
  obtain ⟨e, V1⟩ := V.recv hM hp hne (.inr (by omega))
  refine ⟨e, _, _, V1, fun q hq hqm => ?_, fun j q hq hj => ?_⟩
  · have := hh q hq hqm
    cases q == p with
    | true =>
      show mx2 (h q) T ≤ J
      unfold mx2
      split <;> omega
    | false => exact this
  · by_cases hqp : q = p
    · subst hqp
      rw [beq_self_eq_true]
      have hs := hS j q hq hj
      cases hk : (S j q).isSome with
      | true =>
        have e1 : (true && decide (f ≤ j) && decide (j < f + Ls.length) && !(decide (j < 2) || true)) = false := by simp
        rw [e1, cond_false, hk]
        refine ⟨fun _ => ?_, fun _ => rfl⟩
        rcases hs.1 hk with ⟨a, b⟩ | ⟨a, b | b⟩
        · exact absurd a hne
        · exact .inr ⟨a, .inl b⟩
        · exact .inr ⟨a, .inr ⟨h2, b.2⟩⟩
      | false =>
        have hnot : ¬ ((q = me ∧ j < T + 8) ∨ (q ≠ me ∧ (j < J ∨ (G q ∧ j < T + 8)))) := fun hc => by have := hs.2 hc; rw [hk] at this; cases this
        have hjJ : ¬ j < J := fun hj' => hnot (.inr ⟨hne, .inl hj'⟩)
        rw [decide_eq_true (by omega : f ≤ j), decide_eq_false (by omega : ¬ j < 2)]
        by_cases hlt : j < f + Ls.length
        · rw [decide_eq_true hlt]
          exact ⟨fun _ => .inr ⟨hne, .inr ⟨h2, by omega⟩⟩, fun _ => rfl⟩
        · rw [decide_eq_false hlt]
          simp only [Bool.and_false, Bool.false_and, cond_false, hk]
          refine ⟨(fun h => by cases h), fun hc => ?_⟩
          rcases hc with ⟨a, _⟩ | ⟨_, a | a⟩
          · exact absurd a hne
          · exact absurd a hjJ
          · omega
    · have : (q == p) = false := by simpa using hqp
      rw [this]
      simp only [Bool.false_and, cond_false]
      rw [hS j q hq hj]
      constructor
      · rintro (a | ⟨a, b | b⟩)
        · exact .inl a
        · exact .inr ⟨a, .inl b⟩
        · exact .inr ⟨a, .inr ⟨h1 q b.1, b.2⟩⟩
      · rintro (a | ⟨a, b | b⟩)
        · exact .inl a
        · exact .inr ⟨a, .inl b⟩
        · exact .inr ⟨a, .inr ⟨(h3 q b.1).resolve_right hqp, b.2⟩⟩
theorem VL.adv (V : VL n P me T I J) (hn : 2 ≤ n) (hme : me < n) (hJ : 2 ≤ J ∧ J ≤ I) : (advE P = 0 ↔ T < J) ∧ (T < J → VL n (advP P) me (T + 1) I J) ∧ (¬ T < J → advP P = P) := by
  obtain ⟨h, S, V, hh, hS⟩ := V
  by_cases ht : T < J
  · obtain ⟨e, V1, _⟩ := V.adv (by
      by_cases h2 : T < 2
      · exact .inl h2
      · refine .inr fun q hq => (hS T q hq (by omega)).2 ?_
        by_cases hq2 : q = me
        · exact .inl ⟨hq2, by omega⟩
        · exact .inr ⟨hq2, ht⟩)
    exact ⟨⟨fun _ => ht, fun _ => e⟩, fun _ => ⟨h, S, V1, hh, hS⟩, fun h => absurd ht h⟩
  · obtain ⟨e, e2⟩ := V.adv_no fun hk => by
      rcases hk with hk | hk
      · omega
      · obtain ⟨q, hq, hqm⟩ : ∃ q, q < n ∧ q ≠ me := by
          by_cases h0 : me = 0
          · exact ⟨1, by omega, by omega⟩
          · exact ⟨0, by omega, by omega⟩
        rcases (hS T q hq (by omega)).1 (hk q hq) with ⟨a, _⟩ | ⟨_, a⟩
        · exact hqm a
        · exact ht a
    exact ⟨⟨(fun h => by rw [e] at h; cases h), fun h => absurd h ht⟩, fun h => absurd h ht, fun _ => e2⟩
end Go.Eng.S25
