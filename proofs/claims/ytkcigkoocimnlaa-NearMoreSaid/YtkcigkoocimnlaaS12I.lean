/- Seat 12: squares' rows as a family; how an entry is found and laid. -/
import Derived.Test.YtkcigkoocimnlaaEngX
import Derived.Test.YtkcigkoocimnlaaEngSB
import Derived.Test.YtkcigkoocimnlaaS12H
set_option linter.unusedSimpArgs false
set_option linter.unusedVariables false
namespace Go.Eng.S12
open Go.Proofs Go.IntWalk
set_option maxRecDepth 10000

/-- What comes after may take a state that says less. -/
def SWk (B : Nat) (Q : Exit → St → Prop) : Exit → St → Prop := fun e s => ∃ s', Imp B s s' ∧ Q e s'
theorem Sem.weaken {P : Program} {B : Nat} {c : Code} {Q : Exit → St → Prop} {s : St} (h : Sem P B c (SWk B Q) s) : Sem P B c Q s := by
  intro mine ρ ro a w K m H hK
  refine h mine ρ ro a w K m H fun e s' ρ' ro' a' w' hq hk H' => ?_
  obtain ⟨s2, hi, q⟩ := hq
  obtain ⟨ρ2, ro2, k2, H2⟩ := hi mine ρ' ro' a' w' H'
  exact hK _ _ _ _ _ _ q (hk.trans k2) H2
theorem swk_refl {B : Nat} {Q : Exit → St → Prop} {e : Exit} {s : St} (h : Q e s) : SWk B Q e s := ⟨s, Imp.refl _ _, h⟩
theorem swk_to {B : Nat} {Q : Exit → St → Prop} {e : Exit} {s : St} (s' : St) (hi : Imp B s s') (h : Q e s') : SWk B Q e s := ⟨s', hi, h⟩
/-- A state that says the same of fewer things. -/
theorem imp_sub {B : Nat} {s s' : St} (hN : s'.N = s.N) (hpos : 0 < s'.nx) (hnx : s.nx ≤ s'.nx) (h : ∀ n o c', hget s'.h n o = some c' → ∃ c, hget s.h n o = some c ∧ CW (fun n => n) c' c) : Imp B s s' :=
  RenL.imp (π := fun n => n) ⟨hN, hpos, fun _ _ => rfl, rfl, fun _ _ h => h, fun n hn => Nat.le_trans hnx hn, h⟩
/-! ### Rows -/
def rowL (b : Nat) (L : List Int) : Heap := [(b, 0, .vec 1 3 L.length (lst L))]
theorem rowL_lot : Lot 1 rowL := by
  refine ⟨fun b L e he => ?_, fun b b' L m o c' e => ?_⟩
  · rw [List.mem_singleton.1 he]
    show b ≤ b ∧ b < b + 1
    omega
  · have he := hget_in e
    clear e
    have he := List.mem_singleton.1 he
    simp only [Prod.mk.injEq] at he
    obtain ⟨rfl, rfl, rfl⟩ := he
    refine ⟨.vec 1 3 L.length (lst L), ?_, fun _ _ => ⟨rfl, rfl, rfl, fun _ _ => rfl⟩⟩
    rw [Nat.sub_self, Nat.zero_add]
    simp [rowL, hget]
def rowsF (S : Sq) (j : Nat) : List Int := (S[j]?.map (·.2)).getD []
def famQ (S : Sq) : Heap := famH rowL 1 2 (rowsF S) S.length
theorem rowL_low {B b : Nat} (L : List Int) : ∀ e ∈ rowL b L, ContLow B e.2.2 := by
  intro e he
  rw [List.mem_singleton.1 he]
  exact fun i _ => .int _ _
theorem famQ_low {S : Sq} (hS : S.length ≤ 256) {B : Nat} (hB : 300 ≤ B) : ∀ x ∈ famQ S, 0 < x.1 ∧ x.1 < B ∧ ContLow B x.2.2 :=
  famH_low rowL_lot (by decide) (by omega) fun j hj e he => rowL_low _ e he
theorem famXQ_low {S : Sq} {p : Nat} (hS : S.length ≤ 256) {B : Nat} (hB : 300 ≤ B) : ∀ x ∈ famX rowL 1 2 (rowsF S) p S.length, 0 < x.1 ∧ x.1 < B ∧ ContLow B x.2.2 :=
  famX_low rowL_lot (by decide) (by omega) fun j hj e he => rowL_low _ e he
/-- The map, where each row has a name of its own. -/
def vrow (S : Sq) : List (List Int × AV) := S.mapIdx fun j e => ([e.1.1, e.1.2], .vs (2 + j))
/-- .. where the p-th has the name 303. -/
def frow (S : Sq) (p : Nat) : List (List Int × AV) := S.mapIdx fun j e => ([e.1.1, e.1.2], .vs (bif j == p then 303 else 2 + j))
/-- .. where the rows from k on are written no more. -/
def mrow (S : Sq) (k : Nat) : List (List Int × AV) := S.mapIdx fun j e => ([e.1.1, e.1.2], bif Nat.blt j k then .vs (2 + j) else is1 e.2)
theorem vrow_get (S : Sq) (i : Nat) : (vrow S)[i]? = S[i]?.map fun e => ([e.1.1, e.1.2], .vs (2 + i)) := by simp [vrow, List.getElem?_mapIdx]
theorem frow_get (S : Sq) (p i : Nat) : (frow S p)[i]? = S[i]?.map fun e => ([e.1.1, e.1.2], .vs (bif i == p then 303 else 2 + i)) := by simp [frow, List.getElem?_mapIdx]
theorem mrow_get (S : Sq) (k i : Nat) : (mrow S k)[i]? = S[i]?.map fun e => ([e.1.1, e.1.2], bif Nat.blt i k then .vs (2 + i) else is1 e.2) := by simp [mrow, List.getElem?_mapIdx]
theorem vrow_len (S : Sq) : (vrow S).length = S.length := by simp [vrow]
theorem frow_len (S : Sq) (p : Nat) : (frow S p).length = S.length := by simp [frow]
theorem mrow_len (S : Sq) (k : Nat) : (mrow S k).length = S.length := by simp [mrow]
theorem keys_of {S : Sq} {es : List (List Int × AV)} (hl : es.length = S.length) (h : ∀ (i : Nat) (x : List Int × AV), es[i]? = some x → ∃ e : Sp × List Int, S[i]? = some e ∧ x.1 = [e.1.1, e.1.2]) : es.map (·.1) = S.map fun e => [e.1.1, e.1.2] := by
  refine List.ext_getElem (by simpa using hl) fun i h1 h2 => ?_
  have h1' : i < es.length := by simpa using h1
  obtain ⟨e, g1, g2⟩ := h i es[i] (List.getElem?_eq_getElem h1')
  obtain ⟨h3, g3⟩ := List.getElem?_eq_some_iff.1 g1
  simp [g2, g3]
theorem nd_of {S : Sq} (h : KN S) : (S.map fun e => [e.1.1, e.1.2]).Nodup := by
  have : (S.map fun e => [e.1.1, e.1.2]) = (S.map (·.1)).map fun k => [k.1, k.2] := by simp [List.map_map, Function.comp_def]
  rw [this]
  refine List.nodup_iff_pairwise_ne.2 (List.pairwise_map.2 ((List.nodup_iff_pairwise_ne.1 h).imp fun hne e => hne ?_))
  injection e with e1 e2
  injection e2 with e2 _
  exact Prod.ext e1 e2
theorem midx_at : ∀ {es : List (List Int × AV)}, (es.map (·.1)).Nodup → ∀ {j : Nat} {k : List Int} {v : AV}, es[j]? = some (k, v) → midx es k = some j
  | [], _, j, k, v, h => by simp at h
  | e :: es, hn, 0, k, v, h => by
    simp only [List.getElem?_cons_zero, Option.some.injEq] at h
    subst h
    simp [midx]
  | e :: es, hn, j + 1, k, v, h => by
    simp only [List.getElem?_cons_succ] at h
    rw [List.map_cons, List.nodup_cons] at hn
    have hk : (k == e.1) = false := by
      cases hb : (k == e.1) with
      | false => rfl
      | true =>
        have : k = e.1 := by simpa using hb
        exact absurd (List.mem_map.2 ⟨(k, v), List.mem_iff_getElem?.2 ⟨j, h⟩, this⟩) hn.1
    simp [midx, hk, midx_at hn.2 h]
theorem kget_idx {S : Sq} {a b : Int} {L : List Int} (h : kget S a b = some L) : ∃ j : Nat, S[j]? = some ((a, b), L) := kget_mem h
theorem kget_none {S : Sq} {a b : Int} (h : kget S a b = none) : ∀ e ∈ S, e.1 ≠ (a, b) := by
  induction S with
  | nil => intro e he; cases he
  | cons x S ih =>
    intro e he
    have h : (bif a == x.1.1 && b == x.1.2 then some x.2 else kget S a b) = none := h
    cases hb : (a == x.1.1 && b == x.1.2) with
    | true => rw [hb] at h; cases h
    | false =>
      rw [hb] at h
      rcases List.mem_cons.1 he with rfl | he
      · intro hk
        rw [hk] at hb
        simp at hb
      · exact ih h e he
theorem kput_none {S : Sq} {a b : Int} {L : List Int} (h : kget S a b = none) : kput S a b L = S ++ [((a, b), L)] := by
  induction S with
  | nil => rfl
  | cons x S ih =>
    have h : (bif a == x.1.1 && b == x.1.2 then some x.2 else kget S a b) = none := h
    show (bif a == x.1.1 && b == x.1.2 then ((a, b), L) :: S else x :: kput S a b L) = _
    cases hb : (a == x.1.1 && b == x.1.2) with
    | true => rw [hb] at h; cases h
    | false => rw [hb] at h; rw [cond_false, ih h]; rfl
theorem kput_at {S : Sq} (hn : KN S) {a b : Int} {L M : List Int} : ∀ {j : Nat}, S[j]? = some ((a, b), M) → kput S a b L = S.set j ((a, b), L) := by
  induction S with
  | nil => intro j h; simp at h
  | cons x S ih =>
    intro j h
    unfold KN at hn
    rw [List.map_cons, List.nodup_cons] at hn
    show (bif a == x.1.1 && b == x.1.2 then ((a, b), L) :: S else x :: kput S a b L) = _
    cases j with
    | zero =>
      simp only [List.getElem?_cons_zero, Option.some.injEq] at h
      subst h
      simp
    | succ j =>
      simp only [List.getElem?_cons_succ] at h
      have hb : (a == x.1.1 && b == x.1.2) = false := by
        cases hb : (a == x.1.1 && b == x.1.2) with
        | false => rfl
        | true =>
          simp only [Bool.and_eq_true, beq_iff_eq] at hb
          have : x.1 = (a, b) := Prod.ext hb.1.symm hb.2.symm
          exact absurd (List.mem_map.2 ⟨((a, b), M), List.mem_iff_getElem?.2 ⟨j, h⟩, this.symm⟩) hn.1
      rw [hb, cond_false, ih hn.2 h]
      rfl
/-- In the map, an entry that is there. -/
theorem found_at {S : Sq} (hn : KN S) {p : Nat} {a b : Int} {L : List Int} (h : S[p]? = some ((a, b), L)) : mget (frow S p) [a, b] = some (.vs 303) ∧
    ∀ bs : List Nat, bs.Nodup → bs.length = (frow S p).length → ∀ v, (∃ b0 ∈ bs, (b0 : Int) = stampOf (frow S p) bs [a, b]) ∧ setS (frow S p) bs (stampOf (frow S p) bs [a, b]) v = (frow S p).set p ([a, b], v) := by
  have h1 : (frow S p)[p]? = some ([a, b], .vs 303) := by rw [frow_get, h]; simp
  have hk : ((frow S p).map (·.1)).Nodup := by
    rw [keys_of (frow_len S p) fun i x hx => ?_]
    · exact nd_of hn
    · rw [frow_get] at hx
      obtain ⟨e, g1, rfl⟩ := Option.map_eq_some_iff.1 hx
      exact ⟨e, g1, rfl⟩
  have hm := midx_at hk h1
  obtain ⟨v0, g1, g2, _⟩ := midx_some hm
  rw [h1] at g1
  injection g1 with g1
  injection g1 with _ g1
  refine ⟨by rw [g2, ← g1], fun bs hbn hbl v => ?_⟩
  obtain ⟨b0, b1, b2⟩ := stamp_some (bs := bs) hm hbl
  refine ⟨⟨b0, List.mem_iff_getElem?.2 ⟨p, b1⟩, b2.symm⟩, ?_⟩
  rw [b2]
  exact setS_at (e := ([a, b], .vs 303)) hbn hbl b1 h1
/-- .. that is not there. -/
theorem none_at {S : Sq} {a b : Int} (h : kget S a b = none) : mget (vrow S) [a, b] = none := by
  rw [mget_none_iff]
  intro hm
  obtain ⟨x, h1, h2⟩ := List.mem_map.1 hm
  obtain ⟨i, hi⟩ := List.mem_iff_getElem?.1 h1
  rw [vrow_get] at hi
  obtain ⟨e, g1, rfl⟩ := Option.map_eq_some_iff.1 hi
  simp only at h2
  injection h2 with e1 e2
  injection e2 with e2 _
  exact kget_none h e (List.mem_iff_getElem?.2 ⟨i, g1⟩) (Prod.ext e1 e2)
theorem new_at {es : List (List Int × AV)} {bs : List Nat} {ck : Nat} {k : List Int} {z v : AV} (hl : bs.length = es.length) (hn : (bs ++ [ck]).Nodup) : (∃ b0 ∈ bs ++ [ck], (b0 : Int) = (ck : Int)) ∧ setS (es ++ [(k, z)]) (bs ++ [ck]) ck v = es ++ [(k, v)] := by
  refine ⟨⟨ck, by simp, rfl⟩, ?_⟩
  have := setS_at (v := v) (es := es ++ [(k, z)]) (bs := bs ++ [ck]) (j := es.length) (b := ck) (e := (k, z)) hn (by simp [hl]) (by rw [← hl]; simp) (by simp)
  rw [this]
  simp
/-! ### All rows are written no more -/
theorem frzH_fwd (n sz k : Nat) (f : Nat → AV) : ∀ (h : Heap) (m o : Nat) (c : Cont), m ≠ n → hget h m o = some c → hget (frzH n sz k f h) m o = some (c.frz n sz k f)
  | [], m, o, c, _, e => by cases e
  | (m', o', c') :: h, m, o, c, hne, e => by
    rw [hget_cons] at e
    simp only [frzH]
    cases hb : (m' == n) with
    | true =>
      have : m' = n := by simpa using hb
      rw [if_neg (fun q => hne (q.1.symm.trans this))] at e
      exact frzH_fwd n sz k f h m o c hne e
    | false =>
      show hget ((m', o', c'.frz n sz k f) :: frzH n sz k f h) m o = _
      rw [hget_cons]
      split at e
      · rename_i he
        rw [if_pos he]
        injection e with e; subst e; rfl
      · rename_i he
        rw [if_neg he]
        exact frzH_fwd n sz k f h m o c hne e
theorem imp_frz {B n sz e k : Nat} {f : Nat → AV} {s s' : St} (hn : 0 < n) (hc : hget s.h n 0 = some (.vec sz e k f)) (hN : s'.N = s.N) (hpos : 0 < s'.nx) (hnx : s.nx ≤ s'.nx)
    (h : ∀ m o c', hget s'.h m o = some c' → m ≠ n ∧ ∃ c, hget s.h m o = some c ∧ CW (fun n => n) c' (c.frz n sz k f)) : Imp B s s' := by
  refine (Wk.imp' (.frz n sz e k f hn hc)).trans (imp_sub hN hpos hnx fun m o c' e' => ?_)
  obtain ⟨h1, c, h2, h3⟩ := h m o c' e'
  exact ⟨_, frzH_fwd n sz k f _ m o c h1 h2, h3⟩
theorem freeze_all {S : Sq} (hS : S.length ≤ 256) {H : Heap} (hH : ∀ x ∈ H, (x.1 = 0 ∨ x.1 = 1 ∨ 300 ≤ x.1) ∧ x.1 ≠ 301 ∧ ∀ n sz k f, n < 300 → CW (fun n => n) x.2.2 (x.2.2.frz n sz k f)) {B nx N : Nat} (hnx : 0 < nx) :
    ∀ k, k ≤ S.length → Imp B ⟨(H ++ [(301, 0, .map 2 (mrow S k))]) ++ famH rowL 1 2 (rowsF S) k, nx, N⟩ ⟨H ++ [(301, 0, .map 2 (mrow S 0))], nx, N⟩
  | 0, _ => by
    have : (H ++ [(301, 0, .map 2 (mrow S 0))]) ++ famH rowL 1 2 (rowsF S) 0 = H ++ [(301, 0, .map 2 (mrow S 0))] := List.append_nil _
    rw [this]
    exact Imp.refl _ _
  | k + 1, hk => by
    refine Imp.trans ?_ (freeze_all hS hH hnx k (by omega))
    have names : ∀ (q : List (List Int × AV)) (x : Nat × Nat × Cont), x ∈ H ++ [(301, 0, Cont.map 2 q)] → x.1 = 0 ∨ x.1 = 1 ∨ 300 ≤ x.1 := fun q x hx => by
      rcases List.mem_append.1 hx with hx | hx
      · exact (hH x hx).1
      · rw [List.mem_singleton.1 hx]; exact .inr (.inr (by show 300 ≤ 301; decide))
    have hrow : hget (famH rowL 1 2 (rowsF S) (k + 1)) (2 + 1 * k) 0 = some (.vec 1 3 (rowsF S k).length (lst (rowsF S k))) := famH_get rowL_lot (Nat.lt_succ_self k) (by simp [rowL, hget])
    refine imp_frz (n := 2 + 1 * k) (sz := 1) (e := 3) (k := (rowsF S k).length) (f := lst (rowsF S k)) (by omega) (app_get hrow fun x hx he => by
      have := names _ x hx; omega) rfl hnx (Nat.le_refl _) fun m o c' e => ?_
    rcases app_or e with e | e
    · rcases app_or e with e | e
      · have h0 := hH _ (hget_in e)
        have h1 : m = 0 ∨ m = 1 ∨ 300 ≤ m := h0.1
        exact ⟨by omega, c', app_left (app_left e), h0.2.2 _ _ _ _ (by omega)⟩
      · have he := hget_in e
        have he := List.mem_singleton.1 he
        simp only [Prod.mk.injEq] at he
        obtain ⟨rfl, rfl, rfl⟩ := he
        refine ⟨by omega, .map 2 (mrow S (k + 1)), app_left (app_get (by simp [hget]) fun x hx he => (hH x hx).2.1 he), rfl, by simp [mrow_len], fun i x hx => ?_⟩
        rw [mrow_get] at hx
        obtain ⟨e0, g1, rfl⟩ := Option.map_eq_some_iff.1 hx
        show ((mrow S (k + 1)).map fun x => (x.1, x.2.frz (2 + 1 * k) 1 (rowsF S k).length (lst (rowsF S k))))[i]? = _
        rw [List.getElem?_map, mrow_get, g1]
        simp only [Option.map_some, Option.some.injEq, Prod.mk.injEq, true_and]
        rcases Nat.lt_trichotomy i k with hlt | heq | hgt
        · have b1 : Nat.blt i (k + 1) = true := by simp [Nat.blt_eq]; omega
          have b2 : Nat.blt i k = true := by simp [Nat.blt_eq]; omega
          have b3 : (2 + i == 2 + 1 * k) = false := beq_eq_false_iff_ne.2 (by omega)
          simp only [b1, b2, cond_true, AV.frz, b3, cond_false]
          exact (ren_id _).symm
        · subst heq
          have b1 : Nat.blt i (i + 1) = true := by simp [Nat.blt_eq]
          have b2 : Nat.blt i i = false := by
            cases hb : Nat.blt i i with
            | false => rfl
            | true => simp [Nat.blt_eq] at hb
          have b3 : (2 + i == 2 + 1 * i) = true := by simp
          have b4 : rowsF S i = e0.2 := by simp [rowsF, g1]
          simp only [b1, b2, cond_true, AV.frz, b3, cond_false, b4]
          exact (ren_id _).symm
        · have b1 : Nat.blt i (k + 1) = false := by
            cases hb : Nat.blt i (k + 1) with
            | false => rfl
            | true => simp [Nat.blt_eq] at hb; omega
          have b2 : Nat.blt i k = false := by
            cases hb : Nat.blt i k with
            | false => rfl
            | true => simp [Nat.blt_eq] at hb; omega
          simp only [b1, b2, cond_false]
          show (is1 e0.2).frz _ _ _ _ = _
          exact (ren_id _).symm
    · obtain ⟨j, hj, q⟩ := famH_of e
      have hm := List.mem_singleton.1 (hget_in q)
      simp only [Prod.mk.injEq] at hm
      obtain ⟨rfl, rfl, rfl⟩ := hm
      refine ⟨by omega, _, app_get (famH_get rowL_lot (j := j) (by omega) q) fun x hx he => ?_, rfl, rfl, rfl, fun i hi => rfl⟩
      have := names _ x hx; omega
theorem mrow_zero (S : Sq) : mrow S 0 = qmap S := by
  refine List.ext_getElem? fun i => ?_
  rw [mrow_get]
  simp only [qmap, List.getElem?_map]
  cases S[i]? with
  | none => rfl
  | some e =>
    have : Nat.blt i 0 = false := rfl
    simp [this]
theorem mrow_all (S : Sq) : ∀ i : Nat, (mrow S S.length)[i]? = (vrow S)[i]? := fun i => by
  rw [mrow_get, vrow_get]
  cases h : S[i]? with
  | none => rfl
  | some e =>
    have : Nat.blt i S.length = true := by
      have := (List.getElem?_eq_some_iff.1 h).1
      simpa [Nat.blt_eq] using this
    simp [this]
theorem Imp.lower {B B' : Nat} (hB : B ≤ B') {s s' : St} (h : Imp B' s s') : Imp B s s' := fun mine ρ ro a w H => by
  obtain ⟨ρ', ro', k, H'⟩ := h mine ρ ro a w H
  exact ⟨ρ', ro', k.less hB, H'⟩
/-- Slots, the row that was handed in, and names from 300 on. -/
def coreQ : Heap → Bool
  | [] => true
  | x :: h => (x.1 == 0 || x.1 == 1 || Nat.ble 300 x.1) && coreQ h
theorem coreQ_get : ∀ {h : Heap}, coreQ h = true → ∀ x ∈ h, x.1 = 0 ∨ x.1 = 1 ∨ 300 ≤ x.1
  | [], _, x, hx => by cases hx
  | y :: h, e, x, hx => by
    simp only [coreQ, Bool.and_eq_true, Bool.or_eq_true, beq_iff_eq] at e
    rcases List.mem_cons.1 hx with rfl | hx
    · rcases e.1 with (h1 | h1) | h1
      · exact .inl h1
      · exact .inr (.inl h1)
      · exact .inr (.inr (Nat.le_of_ble_eq_true h1))
    · exact coreQ_get e.2 x hx
theorem inR {R : Heap} (hR : ∀ x ∈ R, 2 ≤ x.1 ∧ x.1 < 300 ∧ ContLow 300 x.2.2) {P : Program} {B : Nat} (hB : B ≤ 300) {c : Code} {Q : Exit → St → Prop} {s : St} (hc : coreQ s.h = true) (h : Sem P 300 c (SWk 300 (SFrame R Q)) s) : Sem P B c Q (s.app R) :=
  Sem.frame hB (fun x hx => ⟨by have := (hR x hx).1; omega, (hR x hx).2.1, (hR x hx).2.2⟩) (fun x hx y hy => by
    have h1 := hR y hy
    rcases coreQ_get hc x hx with h | h | h <;> omega) (Sem.weaken h)
/-- The rows are left aside. -/
theorem inQ {S : Sq} (hS : S.length ≤ 256) {P : Program} {B : Nat} (hB : B ≤ 300) {c : Code} {Q : Exit → St → Prop} {s : St} (hc : coreQ s.h = true) (h : Sem P 300 c (SWk 300 (SFrame (famQ S) Q)) s) : Sem P B c Q (s.app (famQ S)) :=
  inR (fun x hx => by
    obtain ⟨j, h1, h2⟩ := famH_mem hx
    have := rowL_lot.names _ _ _ h2
    exact ⟨by omega, by omega, (famQ_low hS (by decide : 300 ≤ 300) x hx).2.2⟩) hB hc h
theorem rowsF_snoc (S : Sq) (k : Sp) (y : List Int) : updF (rowsF S) S.length y = rowsF (S ++ [(k, y)]) := by
  funext j
  by_cases h : j = S.length
  · subst h
    rw [updF_at]
    simp [rowsF]
  · rw [updF_ne _ _ h]
    unfold rowsF
    rcases Nat.lt_or_ge j S.length with hlt | hge
    · rw [List.getElem?_append_left hlt]
    · rw [List.getElem?_eq_none hge, List.getElem?_eq_none (by simp; omega)]
theorem rowsF_set {S : Sq} {p : Nat} (hp : p < S.length) (k : Sp) (y : List Int) : updF (rowsF S) p y = rowsF (S.set p (k, y)) := by
  funext j
  unfold rowsF
  rw [List.getElem?_set]
  by_cases h : j = p
  · subst h
    rw [updF_at, if_pos rfl, if_pos hp]
    rfl
  · rw [updF_ne _ _ h, if_neg (fun e => h e.symm)]
theorem jn_lo {n a nx m : Nat} (h1 : m < a) (h2 : 300 ≤ m) (hn : n ≤ 256) : jn 1 (2 + 1 * n) a nx m = m := by
  unfold jn
  rw [if_neg (by omega), if_neg (by omega)]
theorem swp_hi {p a m : Nat} (hp : p < 256) (h : 300 ≤ m) (hne : m ≠ a) : swp 1 (2 + 1 * p) a m = m := swp_ne (by omega) (by omega)
/-- The new index, and how far it is. -/
def srcV (q : Bool) (l : List Sp) : AV := bif q then .vs 1 else .rs 2 l.length false (spF l)
def srcH (q : Bool) (l : List Sp) : Heap := bif q then [(1, 0, .vec 2 46 l.length (spF l))] else []
def slN (q : Bool) (l : List Sp) (i : Nat) : Heap := [(0, 2, .cell .nilp), (0, 3, .cell (.int .i64 0)), (0, 4, .cell (.ptr 300 0)), (0, 16, .cell (srcV q l)), (0, 17, .cell (.int .i64 (l.length : Nat))), (0, 18, .cell (.int .i64 (i : Nat)))]
def obN (q : Bool) (l : List Sp) (M : Nat) (es : List (List Int × AV)) : Heap := srcH q l ++ [(300, 0, .cell (.rs 2 l.length false (spF l))), (300, 1, .cell (.mp M)), (300, 2, .top), (M, 0, .map 2 es)]
theorem conv_srcH {π : Nat → Nat} (q : Bool) (l : List Sp) : ConvS π (srcH q l) (srcH q l) := by
  cases q with
  | true => exact ⟨⟨rfl, rfl, rfl, rfl, rfl, fun _ _ => rfl⟩, trivial⟩
  | false => trivial
theorem cw_srcV {π : Nat → Nat} (h : π 1 = 1) (q : Bool) (l : List Sp) : CW π (.cell (srcV q l)) (.cell (srcV q l)) := by
  cases q with
  | true => show AV.vs 1 = AV.vs (π 1); rw [h]
  | false => rfl
theorem conv_slN {π : Nat → Nat} (q : Bool) (h1 : π 1 = 1) (h : π 300 = 300) (l : List Sp) (i : Nat) : ConvS π (slN q l i) (slN q l i) := by
  refine ⟨⟨rfl, rfl, rfl⟩, ⟨rfl, rfl, rfl⟩, ⟨rfl, rfl, ?_⟩, ⟨rfl, rfl, cw_srcV h1 q l⟩, ⟨rfl, rfl, rfl⟩, ⟨rfl, rfl, rfl⟩, trivial⟩
  show AV.ptr 300 0 = AV.ptr (π 300) 0
  rw [h]
theorem conv_obN {π : Nat → Nat} (q : Bool) (h : π 301 = 301) (l : List Sp) {es es' : List (List Int × AV)} (he : CW π (.map 2 es') (.map 2 es)) : ConvS π (obN q l 301 es) (obN q l 301 es') := by
  refine ConvS.app (conv_srcH q l) ⟨⟨rfl, rfl, rfl⟩, ⟨rfl, rfl, ?_⟩, ⟨rfl, rfl, trivial⟩, ⟨rfl, rfl, he⟩, trivial⟩
  show AV.mp 301 = AV.mp (π 301)
  rw [h]
theorem obN_mem {q : Bool} {l : List Sp} {M : Nat} {es : List (List Int × AV)} : ∀ x ∈ obN q l M es, x.1 = 1 ∨ x.1 = 300 ∨ x.1 = M := by
  intro x hx
  rcases List.mem_append.1 hx with hx | hx
  · cases q with
    | true => rw [List.mem_singleton.1 hx]; exact .inl rfl
    | false => cases hx
  · simp only [List.mem_cons, List.not_mem_nil, or_false] at hx
    rcases hx with rfl | rfl | rfl | rfl
    · exact .inr (.inl rfl)
    · exact .inr (.inl rfl)
    · exact .inr (.inl rfl)
    · exact .inr (.inr rfl)
theorem jn_one {n a nx : Nat} (ha : 1 < a) : jn 1 (2 + 1 * n) a nx 1 = 1 := by
  unfold jn
  rw [if_neg (by omega), if_neg (by omega)]
theorem swp_one {p a : Nat} (ha : 1 < a) : swp 1 (2 + 1 * p) a 1 = 1 := swp_ne (by omega) (by omega)
theorem join_sq (q : Bool) (l : List Sp) (i : Nat) {S : Sq} (hS : S.length ≤ 255) (a b : Int) (L : List Int) : Imp 2 (St.app ⟨slN q l i ++ (obN q l 301 (vrow S ++ [([a, b], .vs 302)]) ++ rowL 302 L), 303, 50⟩ (famQ S)) (St.app ⟨slN q l i ++ obN q l 301 (vrow (S ++ [((a, b), L)])), 302, 50⟩ (famQ (S ++ [((a, b), L)]))) := by
  have h := collectB (B := 2) (k := 1) (by decide) rowL_lot (A := slN q l i) (A' := slN q l i) (C := obN q l 301 (vrow S ++ [([a, b], .vs 302)])) (C' := obN q l 301 (vrow (S ++ [((a, b), L)]))) (b := 2) (a := 302) (n := S.length) (nx := 303) (nx' := 302) (N := 50) (xs := rowsF S) (y := L) (by decide) (by omega) (by decide) (by decide) rfl rfl
    (fun x hx => by have := obN_mem x hx; omega) (fun x hx => by have := obN_mem x hx; omega) (conv_slN q (jn_one (by decide)) (jn_lo (by decide) (by decide) (by omega)) l i)
    (conv_obN q (jn_lo (by decide) (by decide) (by omega)) l ⟨rfl, by simp [vrow_len], fun j x hx => ?_⟩)
  · rw [rowsF_snoc S (a, b) L] at h
    have e : (S ++ [((a, b), L)]).length = S.length + 1 := by simp
    unfold famQ
    rw [e]
    exact h
  · rw [vrow_get] at hx
    obtain ⟨e, g1, rfl⟩ := Option.map_eq_some_iff.1 hx
    rcases Nat.lt_or_ge j S.length with hlt | hge
    · rw [List.getElem?_append_left (by rw [vrow_len]; exact hlt), vrow_get]
      rw [List.getElem?_append_left hlt] at g1
      rw [g1]
      show some ([e.1.1, e.1.2], AV.vs (2 + j)) = some ([e.1.1, e.1.2], AV.vs (jn 1 (2 + 1 * S.length) 302 303 (2 + j)))
      unfold jn
      rw [if_neg (by omega), if_neg (by omega)]
    · have hj : j = S.length := by
        have := (List.getElem?_eq_some_iff.1 g1).1
        simp at this
        omega
      subst hj
      rw [List.getElem?_append_right (Nat.le_refl _), Nat.sub_self] at g1
      simp only [List.getElem?_cons_zero, Option.some.injEq] at g1
      subst g1
      rw [List.getElem?_append_right (by rw [vrow_len]; exact Nat.le_refl _), vrow_len, Nat.sub_self]
      show some ([a, b], AV.vs 302) = some ([a, b], AV.vs (jn 1 (2 + 1 * S.length) 302 303 (2 + S.length)))
      unfold jn
      rw [if_pos (by omega)]
      congr 3
      omega
/-- The state ahead of an entry's change. -/
def slP (q : Bool) (l : List Sp) (i : Nat) : Heap := [(0, 2, .cell .nilp), (0, 3, .cell (.int .i64 0)), (0, 4, .cell (.ptr 300 0)), (0, 5, .cell (.int .i64 (i : Nat))), (0, 7, .cell (.ptr 301 0)), (0, 16, .cell (srcV q l)), (0, 17, .cell (.int .i64 (l.length : Nat))), (0, 18, .cell (.int .i64 (i : Nat)))]
def obP (q : Bool) (l : List Sp) (a b : Int) (es : List (List Int × AV)) : Heap := srcH q l ++ [(300, 0, .cell (.rs 2 l.length false (spF l))), (300, 1, .cell (.mp 302)), (300, 2, .top), (301, 0, .cell (.int .i64 a)), (301, 1, .cell (.int .i64 b)), (301, 2, .top), (302, 0, .map 2 es)]
theorem obP_mem {q : Bool} {l : List Sp} {a b : Int} {es : List (List Int × AV)} : ∀ x ∈ obP q l a b es, x.1 = 1 ∨ x.1 = 300 ∨ x.1 = 301 ∨ x.1 = 302 := by
  intro x hx
  rcases List.mem_append.1 hx with hx | hx
  · cases q with
    | true => rw [List.mem_singleton.1 hx]; exact .inl rfl
    | false => cases hx
  · simp only [List.mem_cons, List.not_mem_nil, or_false] at hx
    rcases hx with rfl | rfl | rfl | rfl | rfl | rfl | rfl <;> simp
theorem take_sq (q : Bool) (l : List Sp) (i : Nat) {S : Sq} (hS : S.length ≤ 256) {p : Nat} (hp : p < S.length) (a b : Int) : Imp 2 (St.app ⟨slP q l i ++ obP q l a b (vrow S), 304, 50⟩ (famQ S)) (St.app ⟨slP q l i ++ (rowL 303 (rowsF S p) ++ obP q l a b (frow S p)), 304, 50⟩ (famX rowL 1 2 (rowsF S) p S.length)) := by
  have h1 : swp 1 (2 + 1 * p) 303 1 = 1 := swp_one (by decide)
  have h300 : swp 1 (2 + 1 * p) 303 300 = 300 := swp_hi (by omega) (by decide) (by decide)
  have h301 : swp 1 (2 + 1 * p) 303 301 = 301 := swp_hi (by omega) (by decide) (by decide)
  have h302 : swp 1 (2 + 1 * p) 303 302 = 302 := swp_hi (by omega) (by decide) (by decide)
  refine focusB (B := 2) (k := 1) (by decide) rowL_lot (A := slP q l i) (A' := slP q l i) (C := obP q l a b (vrow S)) (C' := obP q l a b (frow S p)) (b := 2) (a := 303) (n := S.length) (p := p) (nx := 304) (N := 50) (xs := rowsF S) hp (Nat.le_refl _) (by omega) (by decide) rfl rfl
    (fun x hx => by have := obP_mem x hx; omega) (fun x hx => by have := obP_mem x hx; omega)
    ⟨⟨rfl, rfl, rfl⟩, ⟨rfl, rfl, rfl⟩, ⟨rfl, rfl, by show AV.ptr 300 0 = AV.ptr (swp 1 (2 + 1 * p) 303 300) 0; rw [h300]⟩, ⟨rfl, rfl, rfl⟩, ⟨rfl, rfl, by show AV.ptr 301 0 = AV.ptr (swp 1 (2 + 1 * p) 303 301) 0; rw [h301]⟩, ⟨rfl, rfl, cw_srcV h1 q l⟩, ⟨rfl, rfl, rfl⟩, ⟨rfl, rfl, rfl⟩, trivial⟩
    (ConvS.app (conv_srcH q l) ⟨⟨rfl, rfl, rfl⟩, ⟨rfl, rfl, by show AV.mp 302 = AV.mp (swp 1 (2 + 1 * p) 303 302); rw [h302]⟩, ⟨rfl, rfl, trivial⟩, ⟨rfl, rfl, rfl⟩, ⟨rfl, rfl, rfl⟩, ⟨rfl, rfl, trivial⟩, ⟨rfl, rfl, rfl, by rw [frow_len, vrow_len], fun j x hx => ?_⟩, trivial⟩)
  rw [frow_get] at hx
  obtain ⟨e, g1, rfl⟩ := Option.map_eq_some_iff.1 hx
  have hj := (List.getElem?_eq_some_iff.1 g1).1
  rw [vrow_get, g1]
  show some ([e.1.1, e.1.2], AV.vs (2 + j)) = some ([e.1.1, e.1.2], AV.vs (swp 1 (2 + 1 * p) 303 (bif j == p then 303 else 2 + j)))
  by_cases h : j = p
  · subst h
    have := swp_a (k := 1) (b := 2 + 1 * j) (a := 303) (i := 0) (by omega) (by decide)
    rw [Nat.add_zero, Nat.add_zero] at this
    rw [beq_self_eq_true, cond_true, this]
    congr 3
    omega
  · have hb : (j == p) = false := by simpa using h
    rw [hb, cond_false, swp_ne (by omega) (by omega)]
theorem back_sq (q : Bool) (l : List Sp) (i : Nat) {S : Sq} (hS : S.length ≤ 256) {p : Nat} (hp : p < S.length) (a b : Int) (L : List Int) : Imp 2 (St.app ⟨slN q l i ++ (rowL 302 L ++ obN q l 301 ((frow S p).set p ([a, b], .vs 302))), 303, 50⟩ (famX rowL 1 2 (rowsF S) p S.length)) (St.app ⟨slN q l i ++ obN q l 301 (vrow (S.set p ((a, b), L))), 303, 50⟩ (famQ (S.set p ((a, b), L)))) := by
  have h1 : swp 1 (2 + 1 * p) 302 1 = 1 := swp_one (by decide)
  have h300 : swp 1 (2 + 1 * p) 302 300 = 300 := swp_hi (by omega) (by decide) (by decide)
  have h301 : swp 1 (2 + 1 * p) 302 301 = 301 := swp_hi (by omega) (by decide) (by decide)
  have h := unfocusB (B := 2) (k := 1) (by decide) rowL_lot (A := slN q l i) (A' := slN q l i) (C := obN q l 301 ((frow S p).set p ([a, b], .vs 302))) (C' := obN q l 301 (vrow (S.set p ((a, b), L)))) (b := 2) (a := 302) (n := S.length) (p := p) (nx := 303) (N := 50) (xs := rowsF S) (y := L) hp (Nat.le_refl _) (by omega) (by decide) rfl rfl
    (fun x hx => by have := obN_mem x hx; omega) (fun x hx => by have := obN_mem x hx; omega)
    (conv_slN q h1 h300 l i) (conv_obN q h301 l ⟨rfl, by simp [vrow_len, frow_len], fun j x hx => ?_⟩)
  · rw [rowsF_set hp (a, b) L] at h
    unfold famQ
    rw [List.length_set]
    exact h
  · rw [vrow_get] at hx
    obtain ⟨e, g1, rfl⟩ := Option.map_eq_some_iff.1 hx
    rw [List.getElem?_set, frow_len]
    rw [List.getElem?_set] at g1
    by_cases h : p = j
    · subst h
      rw [if_pos rfl, if_pos hp] at g1 ⊢
      injection g1 with g1
      subst g1
      show some ([a, b], AV.vs 302) = some ([a, b], AV.vs (swp 1 (2 + 1 * p) 302 (2 + p)))
      have := swp_b (k := 1) (b := 2 + 1 * p) (a := 302) (i := 0) (by decide)
      rw [Nat.add_zero, Nat.add_zero] at this
      rw [show 2 + p = 2 + 1 * p by omega, this]
    · rw [if_neg h] at g1 ⊢
      rw [frow_get, g1]
      have hj := (List.getElem?_eq_some_iff.1 g1).1
      have hb : (j == p) = false := by simp; omega
      show some ([e.1.1, e.1.2], AV.vs (bif j == p then 303 else 2 + j)) = some ([e.1.1, e.1.2], AV.vs (swp 1 (2 + 1 * p) 302 (2 + j)))
      rw [hb, cond_false, swp_ne (by omega) (by omega)]
/-- One row is at hand, the others are left aside. -/
theorem inX {S : Sq} {p : Nat} (hS : S.length ≤ 256) {P : Program} {B : Nat} (hB : B ≤ 300) {c : Code} {Q : Exit → St → Prop} {s : St} (hc : coreQ s.h = true) (h : Sem P 300 c (SWk 300 (SFrame (famX rowL 1 2 (rowsF S) p S.length) Q)) s) : Sem P B c Q (s.app (famX rowL 1 2 (rowsF S) p S.length)) :=
  inR (fun x hx => by
    obtain ⟨j, h1, _, h2⟩ := famX_mem hx
    have := rowL_lot.names _ _ _ h2
    exact ⟨by omega, by omega, (famXQ_low hS (by decide : 300 ≤ 300) x hx).2.2⟩) hB hc h
theorem kput_len {α : Type} (S : List (Sp × α)) (a b : Int) (v : α) : (kput S a b v).length ≤ S.length + 1 := by
  induction S with
  | nil => simp [kput]
  | cons e S ih =>
    show (bif a == e.1.1 && b == e.1.2 then ((a, b), v) :: S else e :: kput S a b v).length ≤ _
    cases a == e.1.1 && b == e.1.2 <;> simp <;> omega
theorem sqN_len (l : List Sp) : ∀ n, (sqN l n).length ≤ n
  | 0 => Nat.le_refl _
  | n + 1 => by
    have := sqN_len l n
    exact Nat.le_trans (kput_len _ _ _ _) (by omega)
end Go.Eng.S12
