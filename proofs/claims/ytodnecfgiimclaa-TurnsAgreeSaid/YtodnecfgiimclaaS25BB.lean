/- Seat 25: peers that go on with what each issued, whatever is lost, doubled or swapped. Plain Lean. -/
import Derived.Test.YtodnecfgiimclaaS25Y
import Derived.Test.YtodnecfgiimclaaEngX
import Derived.Test.YtodnecfgiimclaaS25AA
set_option linter.unusedSimpArgs false
set_option linter.unusedVariables false
namespace Go.Eng.S25
abbrev Iss := Nat → List (List Int)
/-- What each peer is, when each has issued Is, and has gone on Ts turns. -/
structure AG (n : Nat) (Ps : Nat → Peer) (Is : Iss) (Ts : Nat → Int) : Prop where
  peer : ∀ p, p < n → ∃ h S, VN n (Ps p) p (Ts p) (Is p).length h S ∧ (∀ j q, q < n → ∀ L, S j q = some L → 0 ≤ j ∧ j < (Is q).length ∧ L = (Is q).getD j.toNat []) ∧ ∀ j : Nat, 2 ≤ j → j < (Is p).length → S j p = some ((Is p).getD j [])
  low : ∀ p, p < n → 0 ≤ Ts p
  lock : ∀ p q, p < n → q < n → Ts p ≤ (Is q).length
  win : ∀ q, q < n → ((Is q).length : Int) ≤ Ts q + 8
  two : ∀ q, q < n → 2 ≤ (Is q).length
  nil : ∀ q, q < n → (Is q).getD 0 [] = [] ∧ (Is q).getD 1 [] = []
/-- A message that was kept: it holds what its sender had issued. -/
def KM (n : Nat) (Is : Iss) (M : List Int) : Prop := ∃ p to t f Ls, p < n ∧ to < n ∧ p ≠ to ∧ Msg M p to t f Ls ∧ 0 ≤ f ∧ (Ls = [] ∨ f + (Ls.length : Int) ≤ (Is p).length) ∧ ∀ x : Nat, x < Ls.length → 2 ≤ f + (x : Nat) → Ls.getD x [] = (Is p).getD (f + (x : Nat)).toNat []
/-- What was issued, and one set more of one peer. -/
def addI (Is : Iss) (p : Nat) (L : List Int) : Iss := fun q => bif q == p then Is q ++ [L] else Is q
theorem addI_at (Is : Iss) (p : Nat) (L : List Int) : addI Is p L p = Is p ++ [L] := by simp [addI]
theorem addI_ne (Is : Iss) {p q : Nat} (L : List Int) (h : q ≠ p) : addI Is p L q = Is q := by
  have : (q == p) = false := by simpa using h
  simp [addI, this]
theorem addI_get (Is : Iss) (p : Nat) (L : List Int) {q j : Nat} (h : j < (Is q).length) : (addI Is p L q).getD j [] = (Is q).getD j [] := by
  by_cases hq : q = p
  · subst hq
    rw [addI_at, List.getD_eq_getElem?_getD, List.getD_eq_getElem?_getD, List.getElem?_append_left h]
  · rw [addI_ne _ _ hq]
theorem addI_len (Is : Iss) (p : Nat) (L : List Int) (q : Nat) : (Is q).length ≤ (addI Is p L q).length ∧ (addI Is p L q).length ≤ (Is q).length + 1 := by
  by_cases hq : q = p
  · subst hq; rw [addI_at, List.length_append]; exact ⟨Nat.le_add_right _ _, Nat.le_refl _⟩
  · rw [addI_ne _ _ hq]; omega
theorem KM.more {n : Nat} {Is : Iss} {M : List Int} (h : KM n Is M) (p : Nat) (L : List Int) : KM n (addI Is p L) M := by
  obtain ⟨p', to, t, f, Ls, h1, h2, h3, h4, h5, h6, h7⟩ := h
  have hl := addI_len Is p L p'
  refine ⟨p', to, t, f, Ls, h1, h2, h3, h4, h5, h6.imp id fun h => by omega, fun x hx h => ?_⟩
  rcases h6 with h6 | h6
  · subst h6; exact absurd hx (Nat.not_lt_zero _)
  · rw [addI_get _ _ _ (by omega)]; exact h7 x hx h
variable {n : Nat} {Ps : Nat → Peer} {Is : Iss} {Ts : Nat → Int}
def updP (Ps : Nat → Peer) (p : Nat) (y : Peer) : Nat → Peer := fun i => bif i == p then y else Ps i
theorem updP_at (xs : Nat → Peer) (p : Nat) (y : Peer) : updP xs p y p = y := by simp [updP]
theorem updP_ne (xs : Nat → Peer) {p i : Nat} (y : Peer) (h : i ≠ p) : updP xs p y i = xs i := by
  have : (i == p) = false := by simpa using h
  simp [updP, this]
def updT (Ts : Nat → Int) (p : Nat) (y : Int) : Nat → Int := fun i => bif i == p then y else Ts i
theorem updT_at (xs : Nat → Int) (p : Nat) (y : Int) : updT xs p y p = y := by simp [updT]
theorem updT_ne (xs : Nat → Int) {p i : Nat} (y : Int) (h : i ≠ p) : updT xs p y i = xs i := by
  have : (i == p) = false := by simpa using h
  simp [updT, this]
theorem ag_new {xs : Nat → Peer} (hn : 2 ≤ n ∧ n ≤ 8) (hx : ∀ p, p < n → xs p = newP (p : Nat) (n : Nat)) : AG n xs (fun _ => [[], []]) (fun _ => 0) :=
  ⟨fun p hp => ⟨fun _ => 0, fun _ _ => none, (by rw [hx p hp]; exact vn_new hn hp), ⟨fun j q _ L h => (nomatch h), fun j h1 h2 => absurd h2 (by show ¬ j < 2; omega)⟩⟩, fun _ _ => Int.le_refl _, fun _ _ _ _ => by show (0 : Int) ≤ 2; decide, fun _ _ => by show (2 : Int) ≤ 0 + 8; decide, fun _ _ => Nat.le_refl _, fun _ _ => ⟨rfl, rfl⟩⟩
theorem AG.ok (A : AG n Ps Is Ts) {p : Nat} (hp : p < n) : OkP (Ps p) := by obtain ⟨h, S, V, _⟩ := A.peer p hp; exact V.ok
theorem AG.turn (A : AG n Ps Is Ts) {p : Nat} (hp : p < n) : (Ps p).turn = Ts p := by obtain ⟨h, S, V, _⟩ := A.peer p hp; exact V.pt
theorem AG.des (A : AG n Ps Is Ts) {p : Nat} (hp : p < n) : (Ps p).words = [] := by obtain ⟨h, S, V, _⟩ := A.peer p hp; exact V.pw
theorem AG.okT (A : AG n Ps Is Ts) {p : Nat} (hp : p < n) (h : Ts p ≤ 1000) : okT (Ps p) := by
  obtain ⟨h, S, V, _⟩ := A.peer p hp
  have := A.low p hp
  have := A.win p hp
  exact V.okT (by omega) (by omega)
theorem AG.iss (A : AG n Ps Is Ts) {p : Nat} (hp : p < n) {L : List Int} (hL : IsU L) :
    (issE (Ps p) L.length = 0 ∧ AG n (updP Ps p (issP (Ps p) L)) (addI Is p L) Ts) ∨ (issE (Ps p) L.length ≠ 0 ∧ issP (Ps p) L = Ps p) := by
  obtain ⟨h, S, V, hS, hO⟩ := A.peer p hp
  by_cases hi : ((Is p).length : Int) < Ts p + 8 ∧ L.length ≤ 704
  · refine .inl ?_
    obtain ⟨e, V1⟩ := V.iss hL hi.2 hi.1
    have ep : addI Is p L p = Is p ++ [L] := addI_at Is p L
    have el : ((addI Is p L p).length : Int) = (Is p).length + 1 := by rw [ep, List.length_append]; rfl
    refine ⟨e, fun q hq => ?_, A.low, fun q r hq hr => ?_, fun q hq => ?_, fun q hq => ?_, fun q hq => ?_⟩
    · by_cases hqp : q = p
      · subst hqp
        rw [updP_at]
        refine ⟨h, _, V1.congr rfl el.symm (fun _ _ _ => rfl) (fun _ _ _ => rfl), fun j r hr L' hL' => ?_, fun j h1 h2 => ?_⟩
        · have l1 := addI_len Is q L r
          by_cases hb : j = (Is q).length ∧ r = q
          · obtain ⟨rfl, rfl⟩ := hb
            rw [beq_self_eq_true, beq_self_eq_true] at hL'
            simp only [Bool.and_self, cond_true] at hL'
            injection hL' with hL'
            refine ⟨by omega, by omega, ?_⟩
            rw [ep, Int.toNat_natCast, List.getD_eq_getElem?_getD, List.getElem?_append_right (Nat.le_refl _), Nat.sub_self, ← hL']
            rfl
          · have hb' : (j == ((Is q).length : Int) && r == q) = false := by
              cases hh : (j == ((Is q).length : Int) && r == q) with
              | false => rfl
              | true => simp only [Bool.and_eq_true, beq_iff_eq] at hh; exact absurd hh hb
            rw [hb', cond_false] at hL'
            obtain ⟨a, b, c⟩ := hS j r hr L' hL'
            exact ⟨a, by omega, by rw [addI_get _ _ _ (by omega)]; exact c⟩
        · rw [ep, List.length_append] at h2
          have h2 : j < (Is q).length + 1 := h2
          by_cases hj : j = (Is q).length
          · rw [hj, beq_self_eq_true, beq_self_eq_true]
            simp only [Bool.and_self, cond_true]
            rw [ep, List.getD_eq_getElem?_getD, List.getElem?_append_right (Nat.le_refl _), Nat.sub_self]
            rfl
          · have : ((j : Int) == ((Is q).length : Int) && q == q) = false := by
              rw [show ((j : Int) == ((Is q).length : Int)) = false by rw [beq_eq_false_iff_ne]; omega]
              rfl
            rw [this, cond_false, addI_get _ _ _ (by omega)]
            exact hO j h1 (by omega)
      · rw [updP_ne _ _ hqp]
        obtain ⟨h', S', V', hS', hO'⟩ := A.peer q hq
        refine ⟨h', S', by rw [addI_ne _ _ hqp]; exact V', fun j r hr L' hL' => ?_, fun j h1 h2 => ?_⟩
        · obtain ⟨a, b, c⟩ := hS' j r hr L' hL'
          have l1 := addI_len Is p L r
          exact ⟨a, by omega, by rw [addI_get _ _ _ (by omega)]; exact c⟩
        · rw [addI_ne _ _ hqp] at h2 ⊢
          exact hO' j h1 h2
    · have := A.lock q r hq hr
      have l1 := addI_len Is p L r
      omega
    · by_cases hqp : q = p
      · subst hqp; omega
      · rw [addI_ne _ _ hqp]; exact A.win q hq
    · have := A.two q hq
      have l1 := addI_len Is p L q
      omega
    · have := A.two q hq
      rw [addI_get _ _ _ (by omega), addI_get _ _ _ (by omega)]
      exact A.nil q hq
  · have e := V.iss_no hi
    exact .inr ⟨e, issP_no e⟩
theorem AG.send (A : AG n Ps Is Ts) {p : Nat} (hp : p < n) (hT : Ts p ≤ 200) (to : Int) : sendE (Ps p) to ≠ 0 ∨ (sendE (Ps p) to = 0 ∧ KM n Is (sendB (Ps p) to)) := by
  obtain ⟨h, S, V, hS, hO⟩ := A.peer p hp
  by_cases hq : 0 ≤ to ∧ to < (n : Nat) ∧ to ≠ (p : Nat)
  · obtain ⟨q, rfl⟩ : ∃ q : Nat, to = (q : Nat) := ⟨to.toNat, by omega⟩
    have h0 : 0 ≤ h q := by
      rw [← V.ph q (by omega) (by omega)]
      exact (V.ok.hd q (by have := V.ok.n; rw [V.pn] at this; omega)).1
    have hw := A.win p hp
    have hl := A.low p hp
    obtain ⟨e, Ls, M, hl, hg⟩ := V.send (to := q) (by omega) (by omega) (by omega) (by omega)
    refine .inr ⟨e, p, q, _, _, Ls, hp, by omega, by omega, M, h0, ?_, fun x hx h2 => ?_⟩
    · unfold mx2 at hl
      by_cases h1 : Ls = []
      · exact .inl h1
      · have : 0 < Ls.length := List.length_pos_iff.2 h1
        split at hl <;> exact .inr (by omega)
    · rw [hg x hx, show h q + (x : Int) = ((h q + (x : Nat)).toNat : Nat) by omega, hO _ (by omega) (by
        unfold mx2 at hl
        split at hl <;> omega)]
      rw [Int.toNat_natCast]
      rfl
  · refine .inl ?_
    unfold sendE
    have : otherB (Ps p) to = false := by
      unfold otherB
      rw [V.pn, V.pm]
      by_cases h1 : 0 ≤ to
      · by_cases h2 : to < (n : Nat)
        · have : to = (p : Nat) := by omega
          rw [show (to == (p : Int)) = true by simpa using this, Bool.not_true, Bool.and_false]
        · rw [decide_eq_false h2, Bool.and_false, Bool.false_and]
      · rw [decide_eq_false h1, Bool.false_and, Bool.false_and]
    rw [this]
    show (4 : Int) ≠ 0
    decide
theorem AG.recv (A : AG n Ps Is Ts) {M : List Int} (hM : KM n Is M) : ∃ to, to < n ∧ mTo M = (to : Nat) ∧ IsU M ∧ (19 ≤ M.length ∧ M.length ≤ 100000000) ∧ recE (Ps to) M = 0 ∧ AG n (updP Ps to (recP (Ps to) M)) Is Ts := by
  obtain ⟨p, to, t', f, Ls, hp, ht, hne, hM, hf0, hf, hg⟩ := hM
  obtain ⟨h, S, V, hS, hO⟩ := A.peer to ht
  have w1 := A.win p hp
  have w2 := A.lock p to hp ht
  have w3 := A.win to ht
  obtain ⟨e, V1⟩ := V.recv hM hp hne (hf.imp id fun h => by omega)
  refine ⟨to, ht, hM.to, hM.u, hM.len, e, fun q hq => ?_, A.low, A.lock, A.win, A.two, A.nil⟩
  by_cases hqt : q = to
  · subst hqt
    rw [updP_at]
    refine ⟨_, _, V1, fun j r hr L hL => ?_, fun j h1 h2 => ?_⟩
    · by_cases hb : (r == p && decide (f ≤ j) && decide (j < f + Ls.length) && !(decide (j < 2) || (S j p).isSome)) = true
      · rw [hb, cond_true] at hL
        injection hL with hL
        simp only [Bool.and_eq_true, beq_iff_eq, decide_eq_true_eq, Bool.not_eq_true', Bool.or_eq_false_iff, decide_eq_false_iff_not] at hb
        obtain ⟨⟨⟨rfl, b2⟩, b3⟩, b4, b5⟩ := hb
        rcases hf with hf | hf
        · subst hf
          exact absurd b3 (by show ¬ j < f + (0 : Nat); omega)
        · refine ⟨by omega, by omega, ?_⟩
          have := hg (j - f).toNat (by omega) (by omega)
          rw [← hL, this]
          congr 1
          omega
      · rw [Bool.eq_false_iff.2 hb, cond_false] at hL
        exact hS j r hr L hL
    · have : (q == p) = false := by rw [beq_eq_false_iff_ne]; exact Ne.symm hne
      rw [this]
      exact hO j h1 h2
  · rw [updP_ne _ _ hqt]
    exact A.peer q hq
theorem AG.adv (A : AG n Ps Is Ts) {p : Nat} (hp : p < n) :
    (advE (Ps p) = 0 ∧ AG n (updP Ps p (advP (Ps p))) Is (updT Ts p (Ts p + 1)) ∧ (advS (Ps p)).length = n ∧ ∀ q, q < n → Ts p < (Is q).length ∧ (advS (Ps p)).getD q [] = (Is q).getD (Ts p).toNat []) ∨ (advE (Ps p) ≠ 0 ∧ advP (Ps p) = Ps p) := by
  obtain ⟨h, S, V, hS, hO⟩ := A.peer p hp
  by_cases hk : Ts p < 2 ∨ ∀ q, q < n → (S (Ts p) q).isSome = true
  · obtain ⟨e, V1, hl, hg⟩ := V.adv hk
    have h0 := A.low p hp
    have ht : ∀ q, q < n → Ts p < (Is q).length := fun q hq => by
      rcases hk with hk | hk
      · have := A.two q hq; omega
      · obtain ⟨L, hL⟩ := Option.isSome_iff_exists.1 (hk q hq)
        exact (hS _ q hq L hL).2.1
    refine .inl ⟨e, ⟨fun q hq => ?_, fun q hq => ?_, fun q r hq hr => ?_, fun q hq => ?_, A.two, A.nil⟩, hl, fun q hq => ⟨ht q hq, ?_⟩⟩
    · by_cases hqp : q = p
      · subst hqp
        rw [updP_at, updT_at]
        exact ⟨h, S, V1, hS, hO⟩
      · rw [updP_ne _ _ hqp, updT_ne _ _ hqp]
        exact A.peer q hq
    · by_cases hqp : q = p
      · subst hqp; rw [updT_at]; omega
      · rw [updT_ne _ _ hqp]; exact A.low q hq
    · by_cases hqp : q = p
      · subst hqp; rw [updT_at]; have := ht r hr; omega
      · rw [updT_ne _ _ hqp]; exact A.lock q r hq hr
    · by_cases hqp : q = p
      · subst hqp; rw [updT_at]; have := A.win q hq; omega
      · rw [updT_ne _ _ hqp]; exact A.win q hq
    · rw [hg q hq]
      by_cases h2 : Ts p < 2
      · rw [decide_eq_true h2, cond_true]
        rcases (by omega : (Ts p).toNat = 0 ∨ (Ts p).toNat = 1) with h | h
        · rw [h]; exact (A.nil q hq).1.symm
        · rw [h]; exact (A.nil q hq).2.symm
      · rw [decide_eq_false h2, cond_false]
        obtain ⟨L, hL⟩ := Option.isSome_iff_exists.1 (hk.resolve_left h2 q hq)
        rw [hL]
        exact (hS _ q hq L hL).2.2
  · obtain ⟨e, e2⟩ := V.adv_no hk
    exact .inr ⟨by rw [e]; decide, e2⟩
end Go.Eng.S25

/- Seat 25: two families, the peers and the rows of what was issued; one of the one or of the other is looked at. -/
set_option linter.unusedSimpArgs false
set_option linter.unusedVariables false
namespace Go.Eng.S25
open Go.Proofs Go.IntWalk

def nS (Ls : List (List Int)) (i : Nat) : AV := .str (mkStr (Ls.getD i []).length (nU (Ls.getD i [])))
def rowL (b : Nat) (Ls : List (List Int)) : Heap := [(b, 0, .vec 1 9 Ls.length (nS Ls))]
theorem rowL_lot : Lot 1 rowL := by
  refine ⟨fun b P e he => ?_, fun b b' P m o c' e => ?_⟩
  · rw [List.mem_singleton.1 he]
    show b ≤ b ∧ b < b + 1
    omega
  · have he := List.mem_singleton.1 (hget_in e)
    injection he with h1 h2
    injection h2 with h2 h3
    subst h1; subst h2; subst h3
    exact ⟨.vec 1 9 P.length (nS P), by simp [rowL, hget], fun _ _ => ⟨rfl, rfl, rfl, fun _ _ => rfl⟩⟩
/-- The rows of what was issued, under the names from 28 on. -/
def famI (Is : Iss) (n : Nat) : Heap := famH rowL 1 28 Is n
theorem rowL_low {B b : Nat} (Ls : List (List Int)) : ∀ e ∈ rowL b Ls, ContLow B e.2.2 := fun e he => by
  rw [List.mem_singleton.1 he]
  exact fun i _ => .str _
variable {n p nx N : Nat} {xs : Nat → Peer} {Is : Iss} {A C C' : Heap} {c : Code} {Q : Exit → St → Prop} {s : St}
theorem famI_low (hn : n ≤ 8) (Is : Iss) {B : Nat} (hB : 36 ≤ B) : ∀ x ∈ famI Is n, 0 < x.1 ∧ x.1 < B ∧ ContLow B x.2.2 :=
  famH_low rowL_lot (by decide) (by omega) fun j hj e he => rowL_low _ e he
theorem famI_at (hn : n ≤ 8) (Is : Iss) : ∀ x ∈ famI Is n, 28 ≤ x.1 ∧ x.1 < 36 := fun x hx => by
  obtain ⟨j, h1, h2⟩ := famH_mem hx
  have := rowL_lot.names _ _ _ h2
  omega
theorem famIX_at (hn : n ≤ 8) (Is : Iss) : ∀ x ∈ famX rowL 1 28 Is p n, 28 ≤ x.1 ∧ x.1 < 36 := fun x hx => by
  obtain ⟨j, h1, _, h2⟩ := famX_mem hx
  have := rowL_lot.names _ _ _ h2
  omega
theorem famP_at (hn : n ≤ 8) (xs : Nat → Peer) : ∀ x ∈ famP xs n, 1 ≤ x.1 ∧ x.1 < 25 := fun x hx => by
  have := famP_low hn xs (Nat.le_refl 25) x hx
  omega
theorem famPX_at (hn : n ≤ 8) (xs : Nat → Peer) : ∀ x ∈ famX peerL 3 1 xs p n, 1 ≤ x.1 ∧ x.1 < 25 := fun x hx => by
  obtain ⟨j, h1, _, h2⟩ := famX_mem hx
  have := peerL_lot.names _ _ _ h2
  omega
/-- Two parts of the memory change places. -/
theorem swapApp {B : Nat} {s : St} {R R' : Heap} (h1 : ∀ x ∈ s.h, ∀ y ∈ R, x.1 ≠ y.1) (h2 : ∀ x ∈ s.h, ∀ y ∈ R', x.1 ≠ y.1) (hR : ∀ x ∈ R, ∀ y ∈ R', x.1 ≠ y.1) : Imp B ((s.app R).app R') ((s.app R').app R) := by
  refine Wk.imp' (.sub ⟨rfl, rfl, fun m o c h => ?_⟩)
  rcases app_or h with h | h
  · rcases app_or h with h | h
    · exact app_left (app_left h)
    · refine app_get h fun x hx => ?_
      rcases List.mem_append.1 hx with hx | hx
      · exact h2 x hx _ (hget_in h)
      · exact hR x hx _ (hget_in h)
  · exact app_left (app_get h fun x hx => h1 x hx _ (hget_in h))
/-- What is not left aside lies elsewhere. -/
def coreX : Heap → Bool
  | [] => true
  | x :: h => (x.1 == 0 || (Nat.ble 25 x.1 && Nat.blt x.1 28) || Nat.ble 36 x.1) && coreX h
theorem coreX_get : ∀ {h : Heap}, coreX h = true → ∀ x ∈ h, x.1 = 0 ∨ (25 ≤ x.1 ∧ x.1 < 28) ∨ 36 ≤ x.1
  | [], _, x, hx => by cases hx
  | y :: h, e, x, hx => by
    simp only [coreX, Bool.and_eq_true, Bool.or_eq_true, beq_iff_eq, Nat.ble_eq, Nat.blt_eq] at e
    rcases List.mem_cons.1 hx with rfl | hx
    · rcases e.1 with (h | h) | h
      · exact .inl h
      · exact .inr (.inl h)
      · exact .inr (.inr h)
    · exact coreX_get e.2 x hx
theorem coreX_app : ∀ {h g : Heap}, coreX h = true → coreX g = true → coreX (h ++ g) = true
  | [], _, _, e => e
  | y :: h, g, e, e' => by
    simp only [coreX, Bool.and_eq_true] at e
    show (_ && coreX (h ++ g)) = true
    rw [coreX_app e.2 e', e.1]
    rfl
theorem coreX_slots : ∀ {h : Heap}, slotsB h = true → coreX h = true
  | [], _ => rfl
  | y :: h, e => by
    have e0 := slotsB_get e y List.mem_cons_self
    have e1 : slotsB h = true := by
      unfold slotsB at e
      exact (Bool.and_eq_true _ _ ▸ e).2
    show ((y.1 == 0 || _ || _) && coreX h) = true
    rw [coreX_slots e1, e0]
    rfl
theorem coreX_from {m : Nat} (hm : 36 ≤ m) : ∀ {h : Heap}, fromB m h = true → coreX h = true
  | [], _ => rfl
  | y :: h, e => by
    have e0 := fromB_get e y List.mem_cons_self
    have e1 : fromB m h = true := by
      unfold fromB at e
      exact (Bool.and_eq_true _ _ ▸ e).2
    show ((_ || _ || Nat.ble 36 y.1) && coreX h) = true
    rw [coreX_from hm e1, Nat.ble_eq_true_of_le (by omega : 36 ≤ y.1), Bool.or_true]
    rfl
/-- Two parts of the memory are left aside: R1, the names from 1 to 24, R2 those from 28 to 35. -/
theorem inF2 {R1 R2 : Heap} (h1 : ∀ x ∈ R1, 1 ≤ x.1 ∧ x.1 < 25) (h1l : ∀ x ∈ R1, ContLow 37 x.2.2) (h2 : ∀ x ∈ R2, 28 ≤ x.1 ∧ x.1 < 36) (h2l : ∀ x ∈ R2, ContLow 37 x.2.2) (hc : coreX s.h = true) (h : Sem Try.prog 37 c (SFrame R2 (SFrame R1 Q)) s) : Sem Try.prog 1 c Q ((s.app R2).app R1) := by
  have hX := coreX_get hc
  refine Sem.frame (B' := 37) (by decide) (fun x hx => ⟨by have := h1 x hx; omega, by have := h1 x hx; omega, h1l x hx⟩) (fun x hx y hy => ?_) (Sem.frame (B' := 37) (Nat.le_refl _) (fun x hx => ⟨by have := h2 x hx; omega, by have := h2 x hx; omega, h2l x hx⟩) (fun x hx y hy => ?_) h)
  · have := h1 y hy
    rcases List.mem_append.1 hx with hx | hx
    · have := hX x hx; omega
    · have := h2 x hx; omega
  · have := h2 y hy
    have := hX x hx
    omega
/-- Neither a peer nor a row is looked at. -/
theorem inHome (hn : n ≤ 8) (hc : coreX s.h = true) (h : Sem Try.prog 37 c (SFrame (famI Is n) (SFrame (famP xs n) Q)) s) : Sem Try.prog 1 c Q ((s.app (famI Is n)).app (famP xs n)) :=
  inF2 (famP_at hn xs) (fun x hx => (famP_low hn xs (by decide : 25 ≤ 37) x hx).2.2) (famI_at hn Is) (fun x hx => (famI_low hn Is (by decide : 36 ≤ 37) x hx).2.2) hc h
theorem convS_refl {π : Nat → Nat} : ∀ {h : Heap}, (∀ x ∈ h, CW π x.2.2 x.2.2) → ConvS π h h
  | [], _ => trivial
  | x :: h, H => ⟨⟨rfl, rfl, H x List.mem_cons_self⟩, convS_refl fun y hy => H y (List.mem_cons_of_mem _ hy)⟩
theorem rowL_refl {b : Nat} {Ls : List (List Int)} {π : Nat → Nat} : ∀ e ∈ rowL b Ls, CW π e.2.2 e.2.2 := fun e he => by
  rw [List.mem_singleton.1 he]
  exact ⟨rfl, rfl, rfl, fun _ _ => rfl⟩
theorem famI_refl {π : Nat → Nat} : ConvS π (famI Is n) (famI Is n) := convS_refl fun x hx => by
  obtain ⟨j, _, h⟩ := famH_mem hx
  exact rowL_refl x h
theorem peerL_refl {b : Nat} {P : Peer} {π : Nat → Nat} (h1 : π (b + 1) = b + 1) (h2 : π (b + 2) = b + 2) : ∀ e ∈ peerL b P, CW π e.2.2 e.2.2 := by
  intro e he
  simp only [peerL, pcon, List.mem_cons, List.not_mem_nil, or_false] at he
  rcases he with rfl | rfl | rfl | rfl | rfl | rfl | rfl | rfl | rfl | rfl
  · rfl
  · rfl
  · rfl
  · rfl
  · exact ⟨rfl, fun _ _ => rfl⟩
  · show AV.mp _ = AV.mp _; rw [h1]
  · show AV.mp _ = AV.mp _; rw [h2]
  · trivial
  · exact cw_smap _
  · exact cw_map (flat_wmap _)
theorem famP_refl {π : Nat → Nat} (hn : n ≤ 8) (h : ∀ m, 1 ≤ m → m < 25 → π m = m) : ConvS π (famP xs n) (famP xs n) := convS_refl fun x hx => by
  obtain ⟨j, hj, hx⟩ := famH_mem hx
  exact peerL_refl (h _ (by omega) (by omega)) (h _ (by omega) (by omega)) x hx
/-- One peer is looked at. -/
theorem foc2 (hn : n ≤ 8) (hp : p < n) (hnx : 28 ≤ nx) {A' : Heap} (hA : slotsB A = true) (hA' : slotsB A' = true) (hC : fromB 37 C = true) (hC' : fromB 37 C' = true) (cA : ConvS (swp 3 (1 + 3 * p) 25) A A') (cC : ConvS (swp 3 (1 + 3 * p) 25) C C')
    (h : Sem Try.prog 37 c (SFrame (famI Is n) (SFrame (famX peerL 3 1 xs p n) Q)) ⟨A' ++ (peerL 25 (xs p) ++ C'), nx, N⟩) :
    Sem Try.prog 1 c Q ((St.app ⟨A ++ C, nx, N⟩ (famI Is n)).app (famP xs n)) := by
  have o : ∀ {D : Heap}, fromB 37 D = true → ∀ x ∈ D ++ famI Is n, 0 < x.1 ∧ ¬ (1 ≤ x.1 ∧ x.1 < 1 + 3 * n) ∧ ¬ (25 ≤ x.1 ∧ x.1 < 25 + 3) := fun hD x hx => by
    rcases List.mem_append.1 hx with hx | hx
    · have := fromB_get hD x hx; omega
    · have := famI_at hn Is x hx; omega
  have e1 : ((St.app ⟨A ++ C, nx, N⟩ (famI Is n)).app (famP xs n)) = ⟨(A ++ (C ++ famI Is n)) ++ famP xs n, nx, N⟩ := by
    show St.mk (((A ++ C) ++ famI Is n) ++ famP xs n) nx N = _
    rw [List.append_assoc A]
  rw [e1]
  refine Sem.wk (focusB (by decide) peerL_lot (p := p) (b := 1) (a := 25) (A' := A') (C := C ++ famI Is n) (C' := C' ++ famI Is n) hp (Nat.le_refl _) (by omega) hnx hA hA' (o hC) (o hC') cA (cC.app famI_refl)) ?_
  have e2 : (⟨(A' ++ (peerL 25 (xs p) ++ (C' ++ famI Is n))) ++ famX peerL 3 1 xs p n, nx, N⟩ : St) = ((St.app ⟨A' ++ (peerL 25 (xs p) ++ C'), nx, N⟩ (famI Is n)).app (famX peerL 3 1 xs p n)) := by
    show _ = St.mk (((A' ++ (peerL 25 (xs p) ++ C')) ++ famI Is n) ++ famX peerL 3 1 xs p n) nx N
    rw [List.append_assoc A' (peerL 25 (xs p) ++ C') (famI Is n), List.append_assoc (peerL 25 (xs p)) C' (famI Is n)]
  rw [e2]
  refine inF2 (famPX_at hn xs) (fun x hx => (famX_lowP hn (by decide : 25 ≤ 37) x hx).2.2) (famI_at hn Is) (fun x hx => (famI_low hn Is (by decide : 36 ≤ 37) x hx).2.2) (coreX_app (coreX_slots hA') (coreX_app ?_ (coreX_from (by decide) hC'))) h
  rfl
theorem unfoc2 {y : Peer} {nx' : Nat} (hn : n ≤ 8) (hp : p < n) (hnx : 28 ≤ nx) (hnx' : nx ≤ nx') {A' : Heap} (hA : slotsB A = true) (hA' : slotsB A' = true) (hC : fromB 37 C = true) (hC' : fromB 37 C' = true) (cA : ConvS (swp 3 (1 + 3 * p) 25) A A') (cC : ConvS (swp 3 (1 + 3 * p) 25) C' C) :
    Imp 1 ((St.app ⟨A ++ (peerL 25 y ++ C'), nx, N⟩ (famI Is n)).app (famX peerL 3 1 xs p n)) ((St.app ⟨A' ++ C, nx', N⟩ (famI Is n)).app (famP (updF xs p y) n)) := by
  have o : ∀ {D : Heap}, fromB 37 D = true → ∀ x ∈ D ++ famI Is n, 0 < x.1 ∧ ¬ (1 ≤ x.1 ∧ x.1 < 1 + 3 * n) ∧ ¬ (25 ≤ x.1 ∧ x.1 < 25 + 3) := fun hD x hx => by
    rcases List.mem_append.1 hx with hx | hx
    · have := fromB_get hD x hx; omega
    · have := famI_at hn Is x hx; omega
  have e2 : ((St.app ⟨A ++ (peerL 25 y ++ C'), nx, N⟩ (famI Is n)).app (famX peerL 3 1 xs p n)) = ⟨(A ++ (peerL 25 y ++ (C' ++ famI Is n))) ++ famX peerL 3 1 xs p n, nx, N⟩ := by
    show St.mk (((A ++ (peerL 25 y ++ C')) ++ famI Is n) ++ famX peerL 3 1 xs p n) nx N = _
    rw [List.append_assoc A (peerL 25 y ++ C') (famI Is n), List.append_assoc (peerL 25 y) C' (famI Is n)]
  rw [e2]
  refine Imp.trans (unfocusB (by decide) peerL_lot (p := p) (b := 1) (a := 25) (A' := A') (C := C' ++ famI Is n) (C' := C ++ famI Is n) hp (Nat.le_refl _) (by omega) hnx hA hA' (o hC') (o hC) cA (cC.app famI_refl)) ?_
  refine Imp.up ?_ hnx' rfl
  show ((A' ++ C) ++ famI Is n) ++ famP (updF xs p y) n = _
  rw [List.append_assoc A']
  rfl
/-- One row is looked at. -/
theorem focI (hn : n ≤ 8) (hp : p < n) (hnx : 37 ≤ nx) {A' : Heap} (hA : slotsB A = true) (hA' : slotsB A' = true) (hC : fromB 37 C = true) (hC' : fromB 37 C' = true) (cA : ConvS (swp 1 (28 + p) 36) A A') (cC : ConvS (swp 1 (28 + p) 36) C C')
    (h : Sem Try.prog 37 c (SFrame (famX rowL 1 28 Is p n) (SFrame (famP xs n) Q)) ⟨A' ++ (rowL 36 (Is p) ++ C'), nx, N⟩) :
    Sem Try.prog 1 c Q ((St.app ⟨A ++ C, nx, N⟩ (famI Is n)).app (famP xs n)) := by
  have o : ∀ {D : Heap}, fromB 37 D = true → ∀ x ∈ D ++ famP xs n, 0 < x.1 ∧ ¬ (28 ≤ x.1 ∧ x.1 < 28 + 1 * n) ∧ ¬ (36 ≤ x.1 ∧ x.1 < 36 + 1) := fun hD x hx => by
    rcases List.mem_append.1 hx with hx | hx
    · have := fromB_get hD x hx; omega
    · have := famP_at hn xs x hx; omega
  have dA : ∀ {D : Heap}, fromB 37 D = true → ∀ x ∈ A ++ D, x.1 = 0 ∨ 37 ≤ x.1 := fun hD x hx => (List.mem_append.1 hx).imp (slotsB_get hA x) (fromB_get hD x)
  refine Sem.wk (swapApp (fun x hx y hy => by have := dA hC x hx; have := famI_at hn Is y hy; omega) (fun x hx y hy => by have := dA hC x hx; have := famP_at hn xs y hy; omega) fun x hx y hy => by have := famI_at hn Is x hx; have := famP_at hn xs y hy; omega) ?_
  have e1 : ((St.app ⟨A ++ C, nx, N⟩ (famP xs n)).app (famI Is n)) = ⟨(A ++ (C ++ famP xs n)) ++ famI Is n, nx, N⟩ := by
    show St.mk (((A ++ C) ++ famP xs n) ++ famI Is n) nx N = _
    rw [List.append_assoc A]
  rw [e1]
  have cA' : ConvS (swp 1 (28 + 1 * p) 36) A A' := by rw [Nat.one_mul]; exact cA
  have cC' : ConvS (swp 1 (28 + 1 * p) 36) C C' := by rw [Nat.one_mul]; exact cC
  refine Sem.wk (focusB (by decide) rowL_lot (p := p) (b := 28) (a := 36) (A' := A') (C := C ++ famP xs n) (C' := C' ++ famP xs n) hp (by decide) (by omega) hnx hA hA' (o hC) (o hC') cA' (cC'.app (famP_refl hn fun m h1 h2 => swp_ne (by omega) (by omega)))) ?_
  refine Sem.wk (s' := (St.app ⟨A' ++ (rowL 36 (Is p) ++ C'), nx, N⟩ (famX rowL 1 28 Is p n)).app (famP xs n)) ?_ (inF2 (famP_at hn xs) (fun x hx => (famP_low hn xs (by decide : 25 ≤ 37) x hx).2.2) (famIX_at hn Is) (fun x hx => (famX_low rowL_lot (by decide) (by omega) (fun j hj e he => rowL_low _ e he) x hx).2.2) (coreX_app (coreX_slots hA') (coreX_app rfl (coreX_from (by decide) hC'))) h)
  have e2 : (⟨(A' ++ (rowL 36 (Is p) ++ (C' ++ famP xs n))) ++ famX rowL 1 28 Is p n, nx, N⟩ : St) = ((St.app ⟨A' ++ (rowL 36 (Is p) ++ C'), nx, N⟩ (famP xs n)).app (famX rowL 1 28 Is p n)) := by
    show _ = St.mk (((A' ++ (rowL 36 (Is p) ++ C')) ++ famP xs n) ++ famX rowL 1 28 Is p n) nx N
    rw [List.append_assoc A' (rowL 36 (Is p) ++ C') (famP xs n), List.append_assoc (rowL 36 (Is p)) C' (famP xs n)]
  rw [e2]
  have dB : ∀ x ∈ A' ++ (rowL 36 (Is p) ++ C'), x.1 = 0 ∨ 36 ≤ x.1 := fun x hx => by
    rcases List.mem_append.1 hx with hx | hx
    · exact .inl (slotsB_get hA' x hx)
    · rcases List.mem_append.1 hx with hx | hx
      · exact .inr (rowL_lot.names _ _ _ hx).1
      · exact .inr (by have := fromB_get hC' x hx; omega)
  exact swapApp (fun x hx y hy => by have := dB x hx; have := famP_at hn xs y hy; omega) (fun x hx y hy => by have := dB x hx; have := famIX_at hn Is y hy; omega) fun x hx y hy => by have := famP_at hn xs x hx; have := famIX_at hn Is y hy; omega
def avoidB (a : Nat) : Heap → Bool
  | [] => true
  | x :: h => (Nat.ble 37 x.1 && !(x.1 == a)) && avoidB a h
theorem avoidB_get {a : Nat} : ∀ {h : Heap}, avoidB a h = true → ∀ x ∈ h, 37 ≤ x.1 ∧ x.1 ≠ a
  | [], _, x, hx => by cases hx
  | y :: h, e, x, hx => by
    simp only [avoidB, Bool.and_eq_true, Bool.not_eq_true', beq_eq_false_iff_ne, Nat.ble_eq] at e
    rcases List.mem_cons.1 hx with rfl | hx
    · exact e.1
    · exact avoidB_get e.2 x hx
theorem unfocI {y : List (List Int)} {nx' : Nat} (a : Nat) (ha : 36 ≤ a) (hn : n ≤ 8) (hp : p < n) (hnx : a + 1 ≤ nx) (hnx' : nx ≤ nx') {A' : Heap} (hA : slotsB A = true) (hA' : slotsB A' = true) (hC : avoidB a C = true) (hC' : avoidB a C' = true) (cA : ConvS (swp 1 (28 + p) a) A A') (cC : ConvS (swp 1 (28 + p) a) C' C) :
    Imp 1 ((St.app ⟨A ++ (rowL a y ++ C'), nx, N⟩ (famX rowL 1 28 Is p n)).app (famP xs n)) ((St.app ⟨A' ++ C, nx', N⟩ (famI (updF Is p y) n)).app (famP xs n)) := by
  have o : ∀ {D : Heap}, avoidB a D = true → ∀ x ∈ D ++ famP xs n, 0 < x.1 ∧ ¬ (28 ≤ x.1 ∧ x.1 < 28 + 1 * n) ∧ ¬ (a ≤ x.1 ∧ x.1 < a + 1) := fun hD x hx => by
    rcases List.mem_append.1 hx with hx | hx
    · have := avoidB_get hD x hx; omega
    · have := famP_at hn xs x hx; omega
  have dA : ∀ x ∈ A' ++ C, x.1 = 0 ∨ 37 ≤ x.1 := fun x hx => (List.mem_append.1 hx).imp (slotsB_get hA' x) fun h => (avoidB_get hC x h).1
  have dB : ∀ x ∈ A ++ (rowL a y ++ C'), x.1 = 0 ∨ 36 ≤ x.1 := fun x hx => by
    rcases List.mem_append.1 hx with hx | hx
    · exact .inl (slotsB_get hA x hx)
    · rcases List.mem_append.1 hx with hx | hx
      · exact .inr (Nat.le_trans ha (rowL_lot.names _ _ _ hx).1)
      · exact .inr (by have := avoidB_get hC' x hx; omega)
  refine Imp.trans (swapApp (fun x hx z hz => by have := dB x hx; have := famIX_at hn Is z hz; omega) (fun x hx z hz => by have := dB x hx; have := famP_at hn xs z hz; omega) fun x hx z hz => by have := famIX_at hn Is x hx; have := famP_at hn xs z hz; omega) ?_
  have e2 : ((St.app ⟨A ++ (rowL a y ++ C'), nx, N⟩ (famP xs n)).app (famX rowL 1 28 Is p n)) = ⟨(A ++ (rowL a y ++ (C' ++ famP xs n))) ++ famX rowL 1 28 Is p n, nx, N⟩ := by
    show St.mk (((A ++ (rowL a y ++ C')) ++ famP xs n) ++ famX rowL 1 28 Is p n) nx N = _
    rw [List.append_assoc A (rowL a y ++ C') (famP xs n), List.append_assoc (rowL a y) C' (famP xs n)]
  rw [e2]
  have cA' : ConvS (swp 1 (28 + 1 * p) a) A A' := by rw [Nat.one_mul]; exact cA
  have cC'' : ConvS (swp 1 (28 + 1 * p) a) C' C := by rw [Nat.one_mul]; exact cC
  refine Imp.trans (unfocusB (by decide) rowL_lot (p := p) (b := 28) (a := a) (A' := A') (C := C' ++ famP xs n) (C' := C ++ famP xs n) hp (by decide) (by omega) hnx hA hA' (o hC') (o hC) cA' (cC''.app (famP_refl hn fun m h1 h2 => swp_ne (by omega) (by omega)))) ?_
  refine Imp.trans (s' := (St.app ⟨A' ++ C, nx', N⟩ (famP xs n)).app (famI (updF Is p y) n)) (Imp.up ?_ hnx' rfl) (swapApp (fun x hx z hz => by have := dA x hx; have := famP_at hn xs z hz; omega) (fun x hx z hz => by have := dA x hx; have := famI_at hn _ z hz; omega) fun x hx z hz => by have := famP_at hn xs x hx; have := famI_at hn _ z hz; omega)
  show ((A' ++ C) ++ famP xs n) ++ famI (updF Is p y) n = _
  rw [List.append_assoc A']
  rfl
/-- A new row joins them. -/
theorem collI {y : List (List Int)} {a nx' : Nat} (hn : n < 8) (ha : 37 ≤ a) (hnx : a + 1 ≤ nx) (hnx' : a ≤ nx') (hA : slotsB A = true) (hC : ∀ x ∈ C, 37 ≤ x.1 ∧ x.1 < a) (hC' : ∀ x ∈ C', 37 ≤ x.1 ∧ x.1 < a) {A' : Heap} (hA' : slotsB A' = true) (cA : ConvS (jn 1 (28 + n) a nx) A A') (cC : ConvS (jn 1 (28 + n) a nx) C C') {k : Nat} (hk : k ≤ 8) :
    Imp 1 ((St.app ⟨A ++ (C ++ rowL a y), nx, N⟩ (famI Is n)).app (famP xs k)) ((St.app ⟨A' ++ C', nx', N⟩ (famI (updF Is n y) (n + 1))).app (famP xs k)) := by
  have n8 : n ≤ 8 := Nat.le_of_lt hn
  have rp : ∀ x ∈ famP xs k, 1 ≤ x.1 ∧ x.1 < 25 := famP_at hk xs
  have ri : ∀ x ∈ famI Is n, 28 ≤ x.1 ∧ x.1 < 36 := famI_at n8 Is
  have ri' : ∀ x ∈ famI (updF Is n y) (n + 1), 28 ≤ x.1 ∧ x.1 < 36 := famI_at hn _
  have rr : ∀ x ∈ rowL a y, x.1 = a := fun x hx => by rw [List.mem_singleton.1 hx]
  have o : ∀ {D : Heap}, (∀ x ∈ D, 37 ≤ x.1 ∧ x.1 < a) → ∀ x ∈ D ++ famP xs k, 0 < x.1 ∧ ¬ (28 ≤ x.1 ∧ x.1 < 28 + 1 * (n + 1)) ∧ x.1 < a := fun hD x hx => by
    rcases List.mem_append.1 hx with hx | hx
    · have := hD x hx; omega
    · have := rp x hx; omega
  have cA1 : ConvS (jn 1 (28 + 1 * n) a nx) A A' := by rw [Nat.one_mul]; exact cA
  have cC1 : ConvS (jn 1 (28 + 1 * n) a nx) C C' := by rw [Nat.one_mul]; exact cC
  refine Imp.trans (s' := ⟨(A ++ ((C ++ famP xs k) ++ rowL a y)) ++ famI Is n, nx, N⟩) (Wk.imp' (.sub ⟨rfl, rfl, fun m q c h => ?_⟩)) (Imp.trans (collectB (by decide) rowL_lot (b := 28) (a := a) (A' := A') (C := C ++ famP xs k) (C' := C' ++ famP xs k) (nx' := nx') (by decide) (by omega) hnx hnx' hA hA' (o hC) (o hC') cA1 (cC1.app (famP_refl hk fun m h1 h2 => by
    unfold jn
    rw [if_neg (by omega), if_neg (by omega)]))) ?_)
  · rcases app_or h with h | h
    · rcases app_or h with h | h
      · exact app_left (app_left (app_left h))
      · have nA : ∀ x ∈ A, x.1 ≠ m := fun x hx => by
          have h0 := slotsB_get hA x hx
          have : m = 0 → False := fun hm => by
            subst hm
            have := hget_in h
            rcases List.mem_append.1 this with h | h
            · have := o hC _ h; simp only at this; omega
            · have := rr _ h; simp only at this; omega
          intro e
          exact this (by omega)
        rcases app_or h with h | h
        · rcases app_or h with h | h
          · exact app_left (app_left (app_get (app_left h) nA))
          · refine app_get h fun x hx => ?_
            have h0 := rp _ (hget_in h)
            simp only at h0
            rcases List.mem_append.1 hx with hx | hx
            · rcases List.mem_append.1 hx with hx | hx
              · have := slotsB_get hA x hx; omega
              · rcases List.mem_append.1 hx with hx | hx
                · have := hC x hx; omega
                · have := rr x hx; omega
            · have := ri x hx; omega
        · have h0 := rr _ (hget_in h)
          simp only at h0
          exact app_left (app_left (app_get (app_get h fun x hx => by have := hC x hx; omega) nA))
    · have h0 := ri _ (hget_in h)
      simp only at h0
      refine app_left (app_get h fun x hx => ?_)
      rcases List.mem_append.1 hx with hx | hx
      · have := slotsB_get hA x hx; omega
      · rcases List.mem_append.1 hx with hx | hx
        · have := hC x hx; omega
        · have := rr x hx; omega
  · have e : (⟨(A' ++ (C' ++ famP xs k)) ++ famH rowL 1 28 (updF Is n y) (n + 1), nx', N⟩ : St) = ((St.app ⟨A' ++ C', nx', N⟩ (famP xs k)).app (famI (updF Is n y) (n + 1))) := by
      show _ = St.mk (((A' ++ C') ++ famP xs k) ++ famI (updF Is n y) (n + 1)) nx' N
      rw [List.append_assoc A' C' (famP xs k)]
      rfl
    rw [e]
    have dA : ∀ x ∈ A' ++ C', x.1 = 0 ∨ 37 ≤ x.1 := fun x hx => (List.mem_append.1 hx).imp (slotsB_get hA' x) fun h => (hC' x h).1
    exact swapApp (fun x hx z hz => by have := dA x hx; have := rp z hz; omega) (fun x hx z hz => by have := dA x hx; have := ri' z hz; omega) fun x hx z hz => by have := rp x hx; have := ri' z hz; omega
/-- What is not asked for is let go. -/
theorem keep2 {h h' R R' : Heap} {nx nx' N : Nat} (ks : List (Nat × Nat)) (e : pruneH h ks = h') (hc : coreX h = true) (h1 : ∀ x ∈ R', 1 ≤ x.1 ∧ x.1 < 25) (h2 : ∀ x ∈ R, 28 ≤ x.1 ∧ x.1 < 36) (hn : nx ≤ nx') : Imp 1 ((St.app ⟨h, nx, N⟩ R).app R') ((St.app ⟨h', nx', N⟩ R).app R') := by
  subst e
  refine Imp.trans (s' := (St.app ⟨pruneH h ks, nx, N⟩ R).app R') (Wk.imp' (.sub ⟨rfl, rfl, fun n o c hh => ?_⟩)) (Imp.up rfl hn rfl)
  rcases app_or hh with hh | hh
  · rcases app_or hh with hh | hh
    · exact app_left (app_left (pruneH_sub _ _ _ _ _ hh))
    · refine app_left (app_get hh fun x hx hxn => ?_)
      have a1 : 28 ≤ n ∧ n < 36 := h2 _ (hget_in hh)
      have a2 := coreX_get hc x hx
      omega
  · have a1 : 1 ≤ n ∧ n < 25 := h1 _ (hget_in hh)
    refine app_get hh fun x hx hxn => ?_
    rcases List.mem_append.1 hx with hx | hx
    · have a2 := coreX_get hc x hx; omega
    · have a2 := h2 x hx; omega
theorem home_keep {h h' : Heap} {nx nx' N n : Nat} {Is : Iss} {xs : Nat → Peer} (ks : List (Nat × Nat)) (hn8 : n ≤ 8) (e : pruneH h ks = h') (hc : coreX h = true) (hn : nx ≤ nx') : Imp 1 ((St.app ⟨h, nx, N⟩ (famI Is n)).app (famP xs n)) ((St.app ⟨h', nx', N⟩ (famI Is n)).app (famP xs n)) :=
  keep2 ks e hc (famP_at hn8 xs) (famI_at hn8 Is) hn
theorem cw_id (c : Cont) : CW (fun n => n) c c := by
  cases c with
  | cell v => exact (ren_id v).symm
  | arr k f => exact ⟨rfl, fun i _ => (ren_id (f i)).symm⟩
  | vec sz e k f => exact ⟨rfl, rfl, rfl, fun i _ => (ren_id (f i)).symm⟩
  | map ar es => exact ⟨rfl, rfl, fun i x h => by rw [ren_id]; exact h⟩
  | maps ar es bs ck => exact ⟨⟨⟨rfl, rfl⟩, rfl⟩, rfl, fun i x h => by rw [ren_id]; exact h⟩
  | iter m since seen c0 k v => exact ⟨rfl, rfl, rfl, rfl⟩
  | top => trivial
  | dead => trivial
theorem conv_app : ∀ {h h' R : Heap} {m o : Nat} {c' : Cont}, ConvS (fun n => n) h h' → hget (h' ++ R) m o = some c' → ∃ c, hget (h ++ R) m o = some c ∧ CW (fun n => n) c' c
  | [], [], R, m, o, c', _, e => ⟨c', e, cw_id _⟩
  | x :: h, y :: h', R, m, o, c', H, e => by
    obtain ⟨x1, x2, x3⟩ := x
    obtain ⟨y1, y2, y3⟩ := y
    obtain ⟨⟨h1, h2, h3⟩, H⟩ := H
    have h1 : x1 = y1 := h1
    have h2 : x2 = y2 := h2
    subst h1; subst h2
    rw [List.cons_append, hget_cons] at e ⊢
    split at e
    · rename_i he
      injection e with e; subst e
      rw [if_pos he]
      exact ⟨x3, rfl, h3⟩
    · rename_i he
      rw [if_neg he]
      exact conv_app H e
  | [], _ :: _, _, _, _, _, H, _ => H.elim
  | _ :: _, [], _, _, _, _, H, _ => H.elim
/-- Contents said otherwise. -/
theorem conv2 {B : Nat} {h h' R R' : Heap} {nx nx' N : Nat} (cv : ConvS (fun n => n) h h') (h0 : 0 < nx) (hn : nx ≤ nx') : Imp B ((St.app ⟨h, nx, N⟩ R).app R') ((St.app ⟨h', nx', N⟩ R).app R') := by
  refine Imp.trans (s' := (St.app ⟨h', nx, N⟩ R).app R') (RenL.imp (π := fun n => n) ⟨rfl, h0, fun _ _ => rfl, rfl, fun _ _ e => e, fun _ e => e, fun m o c' e => ?_⟩) (Imp.up rfl hn rfl)
  have e : hget ((h' ++ R) ++ R') m o = some c' := e
  show ∃ c, hget ((h ++ R) ++ R') m o = some c ∧ _
  rw [List.append_assoc] at e ⊢
  exact conv_app cv e
theorem conv3 {h h' R R' : Heap} {nx nx' N : Nat} (cv : ConvH (fun n => n) h h') (hc : coreX h = true) (h1 : ∀ x ∈ R', 1 ≤ x.1 ∧ x.1 < 25) (h2 : ∀ x ∈ R, 28 ≤ x.1 ∧ x.1 < 36) (h0 : 0 < nx) (hn : nx ≤ nx') : Imp 1 ((St.app ⟨h, nx, N⟩ R).app R') ((St.app ⟨h', nx', N⟩ R).app R') := by
  refine Imp.trans (s' := (St.app ⟨h', nx, N⟩ R).app R') (RenL.imp (π := fun n => n) ⟨rfl, h0, fun _ _ => rfl, rfl, fun _ _ e => e, fun _ e => e, fun n o c' hh => ?_⟩) (Imp.up rfl hn rfl)
  rcases app_or hh with hh | hh
  · rcases app_or hh with hh | hh
    · obtain ⟨c, e1, e2⟩ := cv.get _ _ _ hh
      exact ⟨c, app_left (app_left e1), e2⟩
    · refine ⟨c', app_left (app_get hh fun x hx hxn => ?_), cw_id _⟩
      have a1 : 28 ≤ n ∧ n < 36 := h2 _ (hget_in hh)
      have a2 := coreX_get hc x hx
      omega
  · have a1 : 1 ≤ n ∧ n < 25 := h1 _ (hget_in hh)
    refine ⟨c', app_get hh fun x hx hxn => ?_, cw_id _⟩
    rcases List.mem_append.1 hx with hx | hx
    · have a2 := coreX_get hc x hx; omega
    · have a2 := h2 x hx; omega
/-- The state under new names. -/
theorem home_ren {h h' : Heap} {nx nx' N n : Nat} {Is : Iss} {xs : Nat → Peer} (l : List Nat) (hn8 : n ≤ 8) (hB : (Nat.ble 37 nx && l.all (fun x => Nat.ble 37 x && Nat.blt x nx)) = true) (hnd : l.Nodup) (hnx : 37 + l.length ≤ nx') (hc : ConvH (pi 37 nx l) h h') (hX : coreX h = true) :
    Imp 1 ((St.app ⟨h, nx, N⟩ (famI Is n)).app (famP xs n)) ((St.app ⟨h', nx', N⟩ (famI Is n)).app (famP xs n)) := by
  simp only [Bool.and_eq_true] at hB
  have h37 : 37 ≤ nx := Nat.le_of_ble_eq_true hB.1
  refine Imp.trans (s' := (St.app ⟨h', 37 + l.length, N⟩ (famI Is n)).app (famP xs n)) (RenL.imp (π := pi 37 nx l) ⟨rfl, by show 0 < 37 + l.length; omega, fun m hm => pi_lt (by omega), pi_lt (by decide), fun m m' e => pi_inj h37 hnd (fun x hx => ?_) e, fun m hm => ?_, fun m o c' hh => ?_⟩) (Imp.up rfl hnx rfl)
  · have := List.all_eq_true.1 hB.2 x hx
    simp only [Bool.and_eq_true] at this
    exact ⟨Nat.le_of_ble_eq_true this.1, by simpa [Nat.blt_eq] using this.2⟩
  · have hm : 37 + l.length ≤ m := hm
    show nx ≤ pi 37 nx l m
    rw [pi_ge (by omega), List.getElem?_eq_none (by omega)]
    show nx ≤ m + nx
    omega
  rcases app_or hh with hh | hh
  · rcases app_or hh with hh | hh
    · obtain ⟨c, e1, e2⟩ := hc.get _ _ _ hh
      exact ⟨c, app_left (app_left e1), e2⟩
    · have a1 : 28 ≤ m ∧ m < 36 := famI_at hn8 Is _ (hget_in hh)
      rw [pi_lt (by omega)]
      refine ⟨c', app_left (app_get hh fun x hx hxn => ?_), ?_⟩
      · have a2 := coreX_get hX x hx; omega
      · obtain ⟨j, _, hj⟩ := famH_mem (hget_in hh)
        exact rowL_refl _ hj
  · have a1 : 1 ≤ m ∧ m < 25 := famP_at hn8 xs _ (hget_in hh)
    rw [pi_lt (by omega)]
    refine ⟨c', app_get hh fun x hx hxn => ?_, ?_⟩
    · rcases List.mem_append.1 hx with hx | hx
      · have a2 := coreX_get hX x hx; omega
      · have a2 := famI_at hn8 Is x hx; omega
    · obtain ⟨j, hj8, hj⟩ := famH_mem (hget_in hh)
      exact peerL_refl (pi_lt (by omega)) (pi_lt (by omega)) _ hj
/-- The rows that hold what was issued. -/
def vsF (i : Nat) : AV := .vs (28 + i)
def vsS (p i : Nat) : AV := .vs (swp 1 (28 + p) 36 (28 + i))
theorem vsS_at (p : Nat) : vsS p p = .vs 36 := by
  unfold vsS
  have := swp_b (k := 1) (b := 28 + p) (a := 36) (i := 0) (by decide)
  rw [Nat.add_zero, Nat.add_zero] at this
  rw [this]
theorem cwI_fs {n p : Nat} (hn : n ≤ 8) (hp : p < n) : CW (swp 1 (28 + p) 36) (.vec 1 40 n (vsS p)) (.vec 1 40 n vsF) := by
  refine ⟨rfl, rfl, rfl, fun i hi => ?_⟩
  show AV.vs (28 + i) = AV.vs (swp 1 (28 + p) 36 (swp 1 (28 + p) 36 (28 + i)))
  rw [swp_swp (by omega)]
theorem cwI_sf {n p : Nat} : CW (swp 1 (28 + p) 36) (.vec 1 40 n vsF) (.vec 1 40 n (vsS p)) := ⟨rfl, rfl, rfl, fun _ _ => rfl⟩
theorem cwI_pt {n p : Nat} (hn : n ≤ 8) : CW (swp 1 (28 + p) 36) (.vec 1 28 n ptF) (.vec 1 28 n ptF) := by
  refine ⟨rfl, rfl, rfl, fun i hi => ?_⟩
  show AV.ptr _ 0 = AV.ptr (swp 1 (28 + p) 36 (1 + 3 * i)) 0
  rw [swp_ne (by omega) (by omega)]
theorem cwP_vs {n p : Nat} (hn : n ≤ 8) (hp : p < 8) : CW (swp 3 (1 + 3 * p) 25) (.vec 1 40 n vsF) (.vec 1 40 n vsF) := by
  refine ⟨rfl, rfl, rfl, fun i hi => ?_⟩
  show AV.vs _ = AV.vs (swp 3 (1 + 3 * p) 25 (28 + i))
  rw [swp_ne (by omega) (by omega)]
theorem cwI_vs {m p : Nat} (hm : 37 ≤ m) (hp : p < 8) : CW (swp 1 (28 + p) 36) (.cell (.vs m)) (.cell (.vs m)) := by
  show AV.vs m = AV.vs (swp 1 (28 + p) 36 m)
  rw [swp_ne (by omega) (by omega)]
theorem cwI_ptr {m p : Nat} (hm : 37 ≤ m ∨ m < 28) (hp : p < 8) : CW (swp 1 (28 + p) 36) (.cell (.ptr m 0)) (.cell (.ptr m 0)) := by
  show AV.ptr m 0 = AV.ptr (swp 1 (28 + p) 36 m) 0
  rw [swp_ne (by omega) (by omega)]
theorem cwP_ptr {m p : Nat} (hm : 28 ≤ m) (hp : p < 8) : CW (swp 3 (1 + 3 * p) 25) (.cell (.ptr m 0)) (.cell (.ptr m 0)) := by
  show AV.ptr m 0 = AV.ptr (swp 3 (1 + 3 * p) 25 m) 0
  rw [swp_ne (by omega) (by omega)]
/-- The pointer to the peer that is looked at. -/
theorem cwP_to {p : Nat} (hp : p < 8) : CW (swp 3 (1 + 3 * p) 25) (.cell (.ptr 25 0)) (.cell (ptF p)) := by
  show AV.ptr (1 + 3 * p) 0 = AV.ptr (swp 3 (1 + 3 * p) 25 25) 0
  have := swp_a (k := 3) (b := 1 + 3 * p) (a := 25) (i := 0) (by omega) (by decide)
  rw [Nat.add_zero, Nat.add_zero] at this
  rw [this]
theorem cwP_fro {p : Nat} : CW (swp 3 (1 + 3 * p) 25) (.cell (ptF p)) (.cell (.ptr 25 0)) := by
  show AV.ptr 25 0 = AV.ptr (swp 3 (1 + 3 * p) 25 (1 + 3 * p)) 0
  have := swp_b (k := 3) (b := 1 + 3 * p) (a := 25) (i := 0) (by decide)
  rw [Nat.add_zero, Nat.add_zero] at this
  rw [this]
/-- Rows and pointers under other names of the rest. -/
theorem cwV_pt {B n nx : Nat} {l : List Nat} (hn : n ≤ 8) (hB : 25 ≤ B) : CW (pi B nx l) (.vec 1 28 n ptF) (.vec 1 28 n ptF) := by
  refine ⟨rfl, rfl, rfl, fun j hj => ?_⟩
  show AV.ptr _ 0 = AV.ptr (pi B nx l (1 + 3 * j)) 0
  rw [pi_lt (by omega)]
theorem cwV_ptS {B n p nx : Nat} {l : List Nat} (hn : n ≤ 8) (hp : p < n) (hB : 28 ≤ B) : CW (pi B nx l) (.vec 1 28 n (ptS p)) (.vec 1 28 n (ptS p)) := by
  refine ⟨rfl, rfl, rfl, fun j hj => ?_⟩
  show AV.ptr _ 0 = AV.ptr (pi B nx l (swp 3 (1 + 3 * p) 25 (1 + 3 * j))) 0
  rw [pi_lt]
  by_cases h : j = p
  · subst h
    have := swp_b (k := 3) (b := 1 + 3 * j) (a := 25) (i := 0) (by decide)
    rw [Nat.add_zero, Nat.add_zero] at this
    rw [this]
    omega
  · rw [swp_ne (by omega) (by omega)]
    omega
theorem cwV_vs {B n nx : Nat} {l : List Nat} (hn : n ≤ 8) (hB : 36 ≤ B) : CW (pi B nx l) (.vec 1 40 n vsF) (.vec 1 40 n vsF) := by
  refine ⟨rfl, rfl, rfl, fun j hj => ?_⟩
  show AV.vs _ = AV.vs (pi B nx l (28 + j))
  rw [pi_lt (by omega)]
theorem cwV_frz {n X sz k nx : Nat} {l : List Nat} {f : Nat → AV} (hn : n ≤ 8) (hX : 37 ≤ X) : CW (pi 37 nx l) (.vec 1 40 n vsF) (.vec 1 40 n fun i => (vsF i).frz X sz k f) := by
  refine ⟨rfl, rfl, rfl, fun j hj => ?_⟩
  show (bif 28 + j == X then AV.rs sz k false f else .vs (28 + j)) = AV.vs (pi 37 nx l (28 + j))
  rw [pi_lt (by omega), show (28 + j == X) = false by rw [beq_eq_false_iff_ne]; omega]
  rfl
theorem cwV_vsS {B n p nx : Nat} {l : List Nat} (hn : n ≤ 8) (hp : p < n) (hB : 37 ≤ B) : CW (pi B nx l) (.vec 1 40 n (vsS p)) (.vec 1 40 n (vsS p)) := by
  refine ⟨rfl, rfl, rfl, fun j hj => ?_⟩
  show AV.vs _ = AV.vs (pi B nx l (swp 1 (28 + p) 36 (28 + j)))
  rw [pi_lt]
  by_cases h : j = p
  · subst h
    have := swp_b (k := 1) (b := 28 + j) (a := 36) (i := 0) (by decide)
    rw [Nat.add_zero, Nat.add_zero] at this
    rw [this]
    omega
  · rw [swp_ne (by omega) (by omega)]
    omega
end Go.Eng.S25
