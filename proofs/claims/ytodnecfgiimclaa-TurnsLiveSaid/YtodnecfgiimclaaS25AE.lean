/- Seat 25: rounds of live peers, one after the other. Plain Lean, but for what is left aside of the memory. -/
import Derived.Test.YtodnecfgiimclaaS25AA
set_option linter.unusedSimpArgs false
set_option linter.unusedVariables false
namespace Go.Eng.S25
open Go.Proofs Go.IntWalk

theorem keepP {h h' R : Heap} {nx nx' N : Nat} (ks : List (Nat × Nat)) (e : pruneH h ks = h') (hc : coreB 25 h = true) (hR : ∀ x ∈ R, 0 < x.1 ∧ x.1 < 25 ∧ ContLow 25 x.2.2) (hn : nx ≤ nx') : Imp 1 (St.app ⟨h, nx, N⟩ R) (St.app ⟨h', nx', N⟩ R) := by
  subst e
  refine Imp.trans (s' := St.app ⟨pruneH h ks, nx, N⟩ R) (Wk.imp' (.sub ⟨rfl, rfl, fun n o c hh => ?_⟩)) (Imp.up rfl hn rfl)
  rcases app_or hh with hh | hh
  · exact app_left (pruneH_sub _ _ _ _ _ hh)
  · refine app_get hh fun x hx hxn => ?_
    have h1 := hR _ (hget_in hh)
    have h2 := coreB_get hc x hx
    have h3 : 0 < n ∧ n < 25 := ⟨h1.1, h1.2.1⟩
    omega

theorem updF_self (xs : Nat → Peer) (p : Nat) : updF xs p (xs p) = xs := by
  funext i
  by_cases h : i = p
  · subst h; rw [updF_at]
  · rw [updF_ne _ _ h]
/-- The messages that were kept: from whom, to whom, what. -/
def msgs (X : List (Nat × Nat × List Int)) : List (List Int) := X.map fun y => y.2.2
theorem msgs_len (X : List (Nat × Nat × List Int)) : (msgs X).length = X.length := List.length_map _
theorem msgs_app (X : List (Nat × Nat × List Int)) (i : Nat) (Y : List (Nat × List Int)) : msgs (X ++ Y.map fun z => (i, z.1, z.2)) = msgs X ++ Y.map Prod.snd := by
  unfold msgs
  rw [List.map_append, List.map_map]
  rfl
structure LSent (n i : Nat) (Ps : Nat → Peer) (X : List (Nat × Nat × List Int)) (T I J : Int) : Prop where
  now : ∀ p, p < n → p < i → VL n (Ps p) p T (T + 8) J
  old : ∀ p, p < n → i ≤ p → VL n (Ps p) p T I J
  all : ∀ y ∈ X, y.1 < n ∧ y.2.1 < n ∧ y.2.1 ≠ y.1 ∧ LM y.2.2 y.1 y.2.1 T J
  has : ∀ p, p < i → ∀ to, to < n → to ≠ p → ∃ M, (p, to, M) ∈ X
  len : X.length ≤ 8 * i
variable {n i m : Nat} {Ps : Nat → Peer} {X : List (Nat × Nat × List Int)} {T I J : Int}
theorem lsent_new (h : ∀ p, p < n → VL n (Ps p) p T I J) : LSent n 0 Ps [] T I J :=
  ⟨fun _ _ h => absurd h (Nat.not_lt_zero _), fun p hp _ => h p hp, fun _ h => absurd h List.not_mem_nil, fun _ h => absurd h (Nat.not_lt_zero _), Nat.le_refl _⟩
theorem lsent_next (L : LSent n i Ps X T I J) (hn : n ≤ 8) (hi : i < n) {P' : Peer} {Y : List (Nat × List Int)} (V : VL n P' i T (T + 8) J) (h1 : ∀ y ∈ Y, y.1 < n ∧ y.1 ≠ i ∧ LM y.2 i y.1 T J) (h2 : ∀ to, to < n → to ≠ i → ∃ M, (to, M) ∈ Y) (h3 : Y.length ≤ n) :
    LSent n (i + 1) (updF Ps i P') (X ++ Y.map fun z => (i, z.1, z.2)) T I J := by
  refine ⟨fun p hp hpi => ?_, fun p hp hpi => ?_, fun y hy => ?_, fun p hp to ht hne => ?_, ?_⟩
  · by_cases h : p = i
    · subst h; rw [updF_at]; exact V
    · rw [updF_ne _ _ h]; exact L.now p hp (by omega)
  · rw [updF_ne _ _ (by omega)]; exact L.old p hp (by omega)
  · rcases List.mem_append.1 hy with hy | hy
    · exact L.all y hy
    · obtain ⟨z, hz, rfl⟩ := List.mem_map.1 hy
      exact ⟨hi, (h1 z hz).1, (h1 z hz).2.1, (h1 z hz).2.2⟩
  · by_cases h : p = i
    · subst h
      obtain ⟨M, hM⟩ := h2 to ht hne
      exact ⟨M, List.mem_append_right _ (List.mem_map.2 ⟨_, hM, rfl⟩)⟩
    · obtain ⟨M, hM⟩ := L.has p (by omega) to ht hne
      exact ⟨M, List.mem_append_left _ hM⟩
  · rw [List.length_append, List.length_map]
    have := L.len
    omega
/-- The messages from the m-th on were handed over. -/
def LGot (n m : Nat) (Ps : Nat → Peer) (X : List (Nat × Nat × List Int)) (T J : Int) : Prop := ∀ to, to < n → VR n (Ps to) to T (T + 8) J fun p => ∃ j M, m ≤ j ∧ X[j]? = some (p, to, M)
theorem lgot_new (L : LSent n n Ps X T I J) : LGot n X.length Ps X T J := fun to ht =>
  (L.now to ht ht).vr _ fun q ⟨j, M, h1, h2⟩ => by
    rw [List.getElem?_eq_none h1] at h2
    cases h2
theorem lgot_next (G : LGot n (m + 1) Ps X T J) (hX : ∀ y ∈ X, y.1 < n ∧ y.2.1 < n ∧ y.2.1 ≠ y.1 ∧ LM y.2.2 y.1 y.2.1 T J) (hJ : T ≤ J ∧ J ≤ T + 8) {p to : Nat} {M : List Int} (hm : X[m]? = some (p, to, M)) :
    recE (Ps to) M = 0 ∧ LGot n m (updF Ps to (recP (Ps to) M)) X T J := by
  obtain ⟨h1, h2, h3, h4⟩ := hX _ (List.mem_iff_getElem?.2 ⟨m, hm⟩)
  have h1 : p < n := h1
  have h2 : to < n := h2
  have h3 : to ≠ p := h3
  have h4 : LM M p to T J := h4
  have hg : ∀ q q', (∃ j M', m ≤ j ∧ X[j]? = some (q, q', M')) → (∃ j M', m + 1 ≤ j ∧ X[j]? = some (q, q', M')) ∨ (q = p ∧ q' = to) := fun q q' ⟨j, M', a, b⟩ => by
    by_cases hj : j = m
    · subst hj
      rw [hm] at b
      injection b with b
      injection b with b1 b2
      injection b2 with b2 b3
      exact .inr ⟨b1.symm, b2.symm⟩
    · exact .inl ⟨j, M', by omega, b⟩
  obtain ⟨e, V⟩ := (G to h2).recv (G' := fun q => ∃ j M', m ≤ j ∧ X[j]? = some (q, to, M')) h4 h1 (Ne.symm h3) hJ (fun q ⟨j, M', a, b⟩ => ⟨j, M', by omega, b⟩) ⟨m, M, Nat.le_refl _, hm⟩ fun q hq => (hg q to hq).imp id And.left
  refine ⟨e, fun q hq => ?_⟩
  by_cases h : q = to
  · subst h; rw [updF_at]; exact V
  · rw [updF_ne _ _ h]
    have := G q hq
    rw [show (fun p => ∃ j M, m ≤ j ∧ X[j]? = some (p, q, M)) = fun p => ∃ j M, m + 1 ≤ j ∧ X[j]? = some (p, q, M) from funext fun p' => propext ⟨fun hh => (hg p' q hh).resolve_right fun hh => h hh.2, fun ⟨j, M', a, b⟩ => ⟨j, M', by omega, b⟩⟩]
    exact this
theorem lgot_done (G : LGot n 0 Ps X T J) (hJ : J ≤ T + 8) (hX : ∀ p, p < n → ∀ to, to < n → to ≠ p → ∃ M, (p, to, M) ∈ X) {p : Nat} (hp : p < n) : VL n (Ps p) p T (T + 8) (T + 8) :=
  (G p hp).all hJ fun q hq hne => by
    obtain ⟨M, hM⟩ := hX q hq p hp (Ne.symm hne)
    obtain ⟨j, hj⟩ := List.mem_iff_getElem?.1 hM
    exact ⟨j, M, Nat.zero_le _, hj⟩
/-- The peers after r rounds. -/
def LInv (n k r : Nat) (Ps : Nat → Peer) : Prop := ∃ T I J : Int, 8 * ((r / k : Nat) : Int) ≤ T ∧ T ≤ 8 * (r : Int) + 2 ∧ 0 ≤ T ∧ T ≤ J ∧ J ≤ T + 2 ∧ J ≤ I ∧ I ≤ T + 8 ∧ 2 ≤ J ∧ ∀ p, p < n → VL n (Ps p) p T I J
theorem linv_new {k : Nat} (hn : 2 ≤ n ∧ n ≤ 8) : LInv n k 0 (newF n) := by
  refine ⟨0, 2, 2, ?_, by decide, by decide, by decide, by decide, by decide, by decide, by decide, fun p hp => vl_new hn hp⟩
  rw [Nat.zero_div]
  decide
theorem linv_next {k r : Nat} {J' : Int} (hk : 1 ≤ k ∧ k ≤ 5) (h1 : 8 * ((r / k : Nat) : Int) ≤ T) (h2 : T ≤ 8 * (r : Int) + 2) (h3 : 0 ≤ T) (h4 : T ≤ J ∧ J ≤ T + 2 ∧ 2 ≤ J) (hJ : (r % k = k - 1 ∧ J' = T + 8) ∨ (r % k ≠ k - 1 ∧ J' = J)) (V : ∀ p, p < n → VL n (Ps p) p J' (T + 8) J') : LInv n k (r + 1) Ps := by
  refine ⟨J', T + 8, J', ?_, ?_, ?_, ?_, ?_, ?_, ?_, ?_, V⟩
  · obtain ⟨k1, k2⟩ := hk
    rcases (by omega : k = 1 ∨ k = 2 ∨ k = 3 ∨ k = 4 ∨ k = 5) with rfl | rfl | rfl | rfl | rfl <;> omega
  all_goals omega
theorem VR.ok {G : Nat → Prop} {P : Peer} {me : Nat} (V : VR n P me T I J G) : OkP P := by obtain ⟨h, S, V, _⟩ := V; exact V.ok
theorem VR.okT {G : Nat → Prop} {P : Peer} {me : Nat} (V : VR n P me T I J G) (h1 : 0 ≤ T ∧ T ≤ 1000000) (h2 : 0 ≤ I ∧ I ≤ 1000000) : okT P := by obtain ⟨h, S, V, _⟩ := V; exact V.okT h1 h2
theorem LM.get {M : List Int} {p q : Nat} (h : LM M p q T J) : IsU M ∧ (19 ≤ M.length ∧ M.length ≤ 100000000) ∧ mTo M = (q : Nat) := by
  obtain ⟨f, Ls, h, _⟩ := h
  exact ⟨h.u, h.len, h.to⟩
theorem msgs_get {p q : Nat} {M : List Int} (h : X[m]? = some (p, q, M)) : (msgs X).getD m [] = M := by
  unfold msgs
  rw [List.getD_eq_getElem?_getD, List.getElem?_map, h]
  rfl
end Go.Eng.S25
