/- Seat 25: what a message does to a peer. Plain Lean. -/
import Derived.Test.YtodnecfgiimclaaS25K
set_option linter.unusedSimpArgs false
set_option linter.unusedVariables false
namespace Go.Eng.S25
theorem no_sets : ∀ S ∈ ([] : List (List Int)), S.length ≤ 704 ∧ IsU S := fun S hS => by cases hS
/-- What sets there are is as many as the message tells, each short. -/
theorem cutA_ok : ∀ (k : Nat) {R : List Int} {acc : List (List Int)}, IsU R → (∀ S ∈ acc, S.length ≤ 704 ∧ IsU S) → (∀ S ∈ (cutA k R acc).1, S.length ≤ 704 ∧ IsU S) ∧ (cutA k R acc).1.length ≤ acc.length + k
  | 0, R, acc, hR, ha => by
    simp only [cutA]
    cases Nat.blt 0 R.length with
    | true => exact ⟨no_sets, Nat.zero_le _⟩
    | false => exact ⟨ha, Nat.le_refl _⟩
  | k + 1, R, acc, hR, ha => by
    simp only [cutA]
    cases Nat.blt R.length 2 with
    | true => exact ⟨no_sets, Nat.zero_le _⟩
    | false =>
      cases h1 : decide (numL (R.take 2) > 704) with
      | true => exact ⟨no_sets, Nat.zero_le _⟩
      | false =>
        cases decide ((R.length : Int) < 2 + numL (R.take 2)) with
        | true => exact ⟨no_sets, Nat.zero_le _⟩
        | false =>
          have h1 := of_decide_eq_false h1
          have := cutA_ok k (R := R.drop (2 + (numL (R.take 2)).toNat)) (acc := acc ++ [(R.drop 2).take (numL (R.take 2)).toNat]) (isU_drop hR _) (fun S hS => by
            rcases List.mem_append.1 hS with hS | hS
            · exact ha S hS
            · rw [List.mem_singleton.1 hS]
              refine ⟨?_, isU_take (isU_drop hR _) _⟩
              rw [List.length_take]
              omega)
          rw [List.length_append, List.length_singleton] at this
          exact ⟨this.1, by have := this.2; simp only [cond_false]; omega⟩
theorem cutF_ok {L : List Int} (hL : IsU L) : (∀ S ∈ (cutF L).1, S.length ≤ 704 ∧ IsU S) ∧ (cutF L).1.length ≤ 255 := by
  unfold cutF
  cases h : Nat.blt L.length 19 with
  | true => exact ⟨no_sets, Nat.zero_le _⟩
  | false =>
    have h18 : ¬ L.length < 19 := fun hh => by rw [nblt_yes hh] at h; cases h
    have := ((isB hL).get 18 (by omega)).2
    have h0 : 0 ≤ L.getD 18 0 ∧ L.getD 18 0 ≤ 255 := this
    have := cutA_ok (L.getD 18 0).toNat (R := L.drop 19) (acc := []) (isU_drop hL _) (fun S hS => by cases hS)
    refine ⟨this.1, ?_⟩
    have := this.2
    rw [List.length_nil] at this
    simp only [cond_false]
    omega
theorem cutF_len {L : List Int} (h : (cutF L).2 = 0) : 19 ≤ L.length := by
  unfold cutF at h
  rcases Nat.lt_or_ge L.length 19 with hlt | hge
  · rw [nblt_yes hlt] at h; cases h
  · exact hge
/-! ### Messages -/
def mFrom (L : List Int) : Int := L.getD 0 0
def mTo (L : List Int) : Int := L.getD 1 0
def mTurn (L : List Int) : Int := numL ((L.drop 2).take 4)
def mWord (L : List Int) : Int := numL ((L.drop 6).take 8)
def mFirst (L : List Int) : Int := numL ((L.drop 14).take 4)
def recE (P : Peer) (L : List Int) : Int := bif (cutF L).2 != 0 then (cutF L).2 else bif decide (mFrom L ≥ P.n) || (mFrom L == P.me) then 4 else bif mTo L != P.me then 11 else
  bif Nat.blt 0 (cutF L).1.length && decide (mFirst L + (cutF L).1.length - 1 ≥ P.turn + 16) then 10 else 0
def kn (S : List ((Int × Int) × List Int)) (t q : Int) : Bool := decide (t < 2) || (kget S t q).isSome
def recS (q first : Int) (Ls : List (List Int)) (S : List ((Int × Int) × List Int)) : Nat → List ((Int × Int) × List Int)
  | 0 => S
  | k + 1 => bif kn (recS q first Ls S k) (first + (k : Nat)) q then recS q first Ls S k else kput (recS q first Ls S k) (first + (k : Nat)) q (Ls.getD k [])
def recH (P : Peer) (L : List Int) : Nat → Int := fun i => bif i == (mFrom L).toNat then mx2 (P.hd i) (mTurn L) else P.hd i
def recW (P : Peer) (L : List Int) : List ((Int × Int) × Int) := bif !(kget P.words (mTurn L) (mFrom L)).isSome && decide (mTurn L > 0) && (mWord L != 0) then kput P.words (mTurn L) (mFrom L) (mWord L) else P.words
def recP (P : Peer) (L : List Int) : Peer := bif recE P L == 0 then ⟨P.me, P.n, P.turn, P.iss, recH P L, recS (mFrom L) (mFirst L) (cutF L).1 P.sets (cutF L).1.length, recW P L⟩ else P
theorem kput_mem {α : Type} : ∀ {S : List ((Int × Int) × α)} {t p : Int} {v : α} {x : (Int × Int) × α}, x ∈ kput S t p v → x ∈ S ∨ x.2 = v
  | [], _, _, _, x, h => by rw [List.mem_singleton.1 h]; exact .inr rfl
  | e :: S, t, p, v, x, h => by
    simp only [kput] at h
    cases hb : (t == e.1.1 && p == e.1.2) with
    | true =>
      rw [hb] at h
      rcases List.mem_cons.1 h with rfl | h
      · exact .inr rfl
      · exact .inl (List.mem_cons_of_mem _ h)
    | false =>
      rw [hb] at h
      rcases List.mem_cons.1 h with rfl | h
      · exact .inl List.mem_cons_self
      · exact (kput_mem h).imp (List.mem_cons_of_mem _) id
theorem mNum_rng {L : List Int} (hL : IsU L) (a k : Nat) : 0 ≤ numL ((L.drop a).take k) ∧ numL ((L.drop a).take k) < 256 ^ k := by
  have h := numL_rng (isU_take (isU_drop hL a) k)
  refine ⟨h.1, Int.lt_of_lt_of_le h.2 ?_⟩
  have h1 : ((L.drop a).take k).length ≤ k := by rw [List.length_take]; omega
  have h2 : (256 : Nat) ^ ((L.drop a).take k).length ≤ 256 ^ k := Nat.pow_le_pow_right (by omega) h1
  have := Int.ofNat_le.2 h2
  rwa [Int.natCast_pow, Int.natCast_pow] at this
theorem recS_ok {q first : Int} {Ls : List (List Int)} {S : List ((Int × Int) × List Int)} (hl : ∀ M ∈ Ls, M.length ≤ 704 ∧ IsU M) (h : ∀ x ∈ S, x.2.length ≤ 704 ∧ IsU x.2) : ∀ k, k ≤ Ls.length → ∀ x ∈ recS q first Ls S k, x.2.length ≤ 704 ∧ IsU x.2
  | 0, _ => h
  | k + 1, hk => by
    intro x hx
    simp only [recS] at hx
    cases hb : kn (recS q first Ls S k) (first + (k : Nat)) q with
    | true => rw [hb] at hx; exact recS_ok hl h k (by omega) x hx
    | false =>
      rw [hb] at hx
      rcases kput_mem hx with hx | hx
      · exact recS_ok hl h k (by omega) x hx
      · rw [hx, List.getD_eq_getElem?_getD, List.getElem?_eq_getElem (by omega : k < Ls.length)]
        exact hl _ (List.getElem_mem _)
/-- A message taken in leaves a peer a peer. -/
theorem recP_ok {P : Peer} {L : List Int} (h : OkP P) (hL : IsU L) : OkP (recP P L) := by
  unfold recP
  cases recE P L == 0 with
  | false => exact h
  | true =>
    have t1 := mNum_rng hL 2 4
    have t2 := mNum_rng hL 6 8
    refine ⟨h.n, h.me, fun i hi => ?_, recS_ok (cutF_ok hL).1 h.sets _ (Nat.le_refl _), fun x hx => ?_⟩
    · show 0 ≤ recH P L i ∧ recH P L i ≤ 4294967295
      unfold recH
      have := h.hd i hi
      have t3 : mTurn L = numL ((L.drop 2).take 4) := rfl
      cases i == (mFrom L).toNat with
      | true =>
        show 0 ≤ mx2 (P.hd i) (mTurn L) ∧ mx2 (P.hd i) (mTurn L) ≤ 4294967295
        unfold mx2
        split <;> omega
      | false => exact this
    · have hx : x ∈ recW P L := hx
      unfold recW at hx
      cases hb : (!(kget P.words (mTurn L) (mFrom L)).isSome && decide (mTurn L > 0) && (mWord L != 0)) with
      | true =>
        rw [hb] at hx
        rcases kput_mem hx with hx | hx
        · exact h.words x hx
        · rw [hx]
          have t3 : mWord L = numL ((L.drop 6).take 8) := rfl
          omega
      | false => rw [hb] at hx; exact h.words x hx
end Go.Eng.S25
