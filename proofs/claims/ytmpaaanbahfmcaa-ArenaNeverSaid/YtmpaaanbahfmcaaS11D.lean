/- Seat 11: the law ArenaNever, walked. -/
import Derived.Test.YtmpaaanbahfmcaaEngX
import Derived.Test.YtmpaaanbahfmcaaS11C
set_option linter.unusedSimpArgs false
set_option linter.unusedVariables false
namespace Go.Eng.S11
open Go.Proofs Go.IntWalk
set_option maxRecDepth 10000

def cnt (G : Nat → Bool) : Nat → Nat
  | 0 => 0
  | k + 1 => bif G k then cnt G k + 1 else cnt G k
theorem allL_cnt (F : Nat → Int) (G : Nat → Bool) (k : Nat) : (allL F G k).length = cnt G k := by
  induction k with
  | zero => rfl
  | succ k ih =>
    cases h : G k with
    | true => rw [allL_yes h]; simp [cnt, h, ih]
    | false => rw [allL_no h]; simp [cnt, h, ih]
theorem cnt_le (G : Nat → Bool) (k : Nat) : cnt G k ≤ k := by
  induction k with
  | zero => exact Nat.le_refl _
  | succ k ih => simp only [cnt]; cases G k <;> simp <;> omega
theorem cnt_congr {G G' : Nat → Bool} {k : Nat} (h : ∀ i, i < k → G i = G' i) : cnt G k = cnt G' k := by
  induction k with
  | zero => rfl
  | succ k ih => simp only [cnt]; rw [h k (by omega), ih fun i hi => h i (by omega)]
theorem cnt_on {G G' : Nat → Bool} {r k : Nat} (hr : r < k) (h0 : G r = false) (h1 : G' r = true) (h : ∀ i, i ≠ r → G' i = G i) : cnt G' k = cnt G k + 1 := by
  induction k with
  | zero => omega
  | succ k ih =>
    simp only [cnt]
    by_cases e : r = k
    · subst e
      rw [h0, h1, cnt_congr fun i hi => h i (by omega)]; rfl
    · rw [h k (fun q => e q.symm), ih (by omega)]
      cases G k <;> simp
theorem cnt_all {G : Nat → Bool} {k : Nat} (h : ∀ i, i < k → G i = true) : cnt G k = k := by
  induction k with
  | zero => rfl
  | succ k ih => simp only [cnt]; rw [h k (by omega), ih fun i hi => h i (by omega)]; rfl
theorem room_full {F : Nat → Int} {G : Nat → Bool} (h : ¬ room F G < 64) (hF : ∀ p, p < 64 → F p < 1048576) : ∀ p, p < 64 → G p = true := by
  intro p hp
  have key : ∀ n, n ≤ 64 → (∀ j, j < n → roomC F G j = false) := by
    intro n
    induction n with
    | zero => intro _ j hj; omega
    | succ n ih =>
      intro hn j hj
      rcases Nat.lt_or_ge j n with h1 | h1
      · exact ih (by omega) j h1
      · have : j = n := by omega
        subst this
        cases hc : roomC F G j with
        | false => rfl
        | true => rw [room_at (by omega) (ih (by omega)) hc] at h; omega
  have := key 64 (Nat.le_refl _) p hp
  unfold roomC at this
  have h2 : decide (F p < 1048576) = true := by simpa using hF p hp
  rw [h2] at this
  simpa using this

/-- What is so behind some acts. -/
structure Inv (F : Nat → Int) (G : Nat → Bool) (L : List Int) (i : Nat) : Prop where
  le : i ≤ 150
  bnd : ∀ p, p < 64 → 0 ≤ F p ∧ F p ≤ i ∧ (G p = true → 1 ≤ F p)
  len : L.length ≤ i
  giv : ∀ x, x ∈ L → 0 ≤ x ∧ x < 64 * F (plF x).toNat
theorem Inv.may {F : Nat → Int} {G : Nat → Bool} {L : List Int} {i : Nat} (h : Inv F G L i) : mayA F G = true := by
  refine all_true fun p hp => ?_
  have := h.bnd p hp
  have hle := h.le
  unfold okP
  have h1 : decide (0 ≤ F p) = true := by simpa using this.1
  have h2 : decide (F p ≤ 1048576) = true := by simp; omega
  rw [h1, h2]
  cases hg : G p with
  | false => rfl
  | true => have := this.2.2 hg; simp [this]
theorem Inv.zero : Inv (fun _ => 0) (fun _ => false) [] 0 := ⟨by omega, fun p _ => ⟨by omega, by simp, fun h => by cases h⟩, by simp, fun x hx => by cases hx⟩
theorem Inv.same {F : Nat → Int} {G : Nat → Bool} {L : List Int} {i : Nat} (h : Inv F G L i) (hi : i < 150) : Inv F G L (i + 1) :=
  ⟨by omega, fun p hp => by have := h.bnd p hp; exact ⟨this.1, by omega, this.2.2⟩, by have := h.len; omega, h.giv⟩
theorem frE_zero {F : Nat → Int} {G : Nat → Bool} {id : Int} (hm : mayA F G = true) : (frE F G id == 0) = isF F G id := by
  have hp := plF_range id
  have hF := may_get hm (p := (plF id).toNat) (by omega)
  unfold frE isF givenF
  rw [hm]
  simp only [cond_true, Bool.and_true]
  cases hg : G (plF id).toNat with
  | false =>
    simp only [Bool.and_false, Bool.false_and, cond_false]
    cases (decide (0 ≤ id) && decide (id ≤ 64 * (F (plF id).toNat - 1) + plF id)) <;> rfl
  | true =>
    have h1 := hF.2.2 hg
    by_cases e : id = 64 * (F (plF id).toNat - 1) + plF id
    · have h2 : 0 ≤ id := by omega
      have h3 : id ≤ 64 * (F (plF id).toNat - 1) + plF id := by omega
      have h4 : (id == 64 * (F (plF id).toNat - 1) + plF id) = true := by simpa using e
      rw [h4]; simp [h2, h3]
    · have h4 : (id == 64 * (F (plF id).toNat - 1) + plF id) = false := beq_eq_false_iff_ne.2 e
      rw [h4]
      simp only [Bool.false_and, Bool.and_false, cond_false]
      cases (decide (0 ≤ id) && decide (id ≤ 64 * (F (plF id).toNat - 1) + plF id)) <;> rfl
theorem isF_iff {F : Nat → Int} {G : Nat → Bool} {id : Int} (hm : mayA F G = true) : isF F G id = true ↔ G (plF id).toNat = true ∧ id = 64 * (F (plF id).toNat - 1) + plF id := by
  have hp := plF_range id
  have hF := may_get hm (p := (plF id).toNat) (by omega)
  unfold isF
  rw [hm]
  simp only [Bool.and_true, Bool.and_eq_true, decide_eq_true_eq, beq_iff_eq]
  constructor
  · rintro ⟨⟨h1, h2⟩, h3⟩; exact ⟨h2, h3⟩
  · rintro ⟨h1, h2⟩; have := hF.2.2 h1; exact ⟨⟨by omega, h1⟩, h2⟩
/-- Freed. -/
theorem Inv.free {F : Nat → Int} {G : Nat → Bool} {L : List Int} {i : Nat} {id : Int} (h : Inv F G L i) (hi : i < 150) (he : isF F G id = true) :
    Inv (frT F G id) (frL F G id) L (i + 1) ∧ cnt G 64 = cnt (frL F G id) 64 + 1 ∧ isF (frT F G id) (frL F G id) id = false := by
  have hm := h.may
  have hp := plF_range id
  have e0 : (frE F G id == 0) = true := by rw [frE_zero hm, he]
  have eT : frT F G id = F := by funext j; unfold frT; rw [e0]; rfl
  have eL : ∀ j, frL F G id j = bif j == (plF id).toNat then false else G j := by intro j; unfold frL; rw [e0]; rfl
  have hg := ((isF_iff hm).1 he).1
  rw [eT]
  have hoff : frL F G id (plF id).toNat = false := by rw [eL]; simp
  have hoth : ∀ j, j ≠ (plF id).toNat → frL F G id j = G j := by intro j hj; rw [eL, show (j == (plF id).toNat) = false by simpa using hj]; rfl
  refine ⟨⟨by omega, fun p hp => ?_, by have := h.len; omega, h.giv⟩, ?_, ?_⟩
  · have := h.bnd p hp
    refine ⟨this.1, by omega, fun hq => this.2.2 ?_⟩
    by_cases e : p = (plF id).toNat
    · subst e; exact hg
    · rw [hoth p e] at hq; exact hq
  · exact cnt_on (r := (plF id).toNat) (by omega) hoff hg fun j hj => (hoth j hj).symm
  · unfold isF; rw [hoff]; simp
/-- Taken. -/
theorem Inv.take {F : Nat → Int} {G : Nat → Bool} {L : List Int} {i : Nat} (h : Inv F G L i) (hi : i < 150) (hr : room F G < 64) :
    Inv (tkT F G) (tkL F G) (L ++ [tkN F G]) (i + 1) ∧ cnt (tkL F G) 64 = cnt G 64 + 1 ∧ tkN F G ∉ L ∧ isF (tkT F G) (tkL F G) (tkN F G) = true ∧ 0 ≤ tkN F G ∧ tkN F G ≤ 10000 := by
  have hm := h.may
  have hb : Nat.blt (room F G) 64 = true := by simpa [Nat.blt_eq] using hr
  have e1 : okT F G = true := by unfold okT; rw [hm, hb]; rfl
  have hF := h.bnd (room F G) hr
  have hle := h.le
  have hrc := room_spec hr
  have hg : G (room F G) = false := by unfold roomC at hrc; simp at hrc; exact hrc.1
  have eT : ∀ j, tkT F G j = bif j == room F G then F j + 1 else F j := by intro j; unfold tkT; rw [e1]; rfl
  have eL : ∀ j, tkL F G j = bif j == room F G then true else G j := by intro j; unfold tkL; rw [e1]; rfl
  have eN : tkN F G = F (room F G) * 64 + (room F G : Nat) := by unfold tkN; rw [e1]; rfl
  have hpl : plF (tkN F G) = (room F G : Nat) := by rw [eN]; unfold plF; omega
  have hpn : (plF (tkN F G)).toNat = room F G := by rw [hpl]; simp
  have hTr : tkT F G (room F G) = F (room F G) + 1 := by rw [eT]; simp
  have hLr : tkL F G (room F G) = true := by rw [eL]; simp
  have hTo : ∀ j, j ≠ room F G → tkT F G j = F j := by intro j hj; rw [eT, show (j == room F G) = false by simpa using hj]; rfl
  have hLo : ∀ j, j ≠ room F G → tkL F G j = G j := by intro j hj; rw [eL, show (j == room F G) = false by simpa using hj]; rfl
  have hTge : ∀ j, F j ≤ tkT F G j := by
    intro j
    by_cases e : j = room F G
    · subst e; rw [hTr]; omega
    · rw [hTo j e]; omega
  have hI : Inv (tkT F G) (tkL F G) (L ++ [tkN F G]) (i + 1) := by
    refine ⟨by omega, fun p hp => ?_, by have := h.len; simp; omega, fun x hx => ?_⟩
    · have := h.bnd p hp
      by_cases e : p = room F G
      · subst e; rw [hTr]; exact ⟨by omega, by omega, fun _ => by omega⟩
      · rw [hTo p e, hLo p e]; exact ⟨this.1, by omega, this.2.2⟩
    · rcases List.mem_append.1 hx with hx | hx
      · have := h.giv x hx
        have h2 := hTge (plF x).toNat
        exact ⟨this.1, by omega⟩
      · rw [List.mem_singleton.1 hx, hpn, hTr, eN]
        constructor <;> omega
  refine ⟨hI, cnt_on hr hg hLr hLo, fun hx => ?_, (isF_iff hI.may).2 ?_, by omega, by omega⟩
  · have := h.giv _ hx
    rw [hpn, eN] at this
    omega
  · rw [hpn, hTr, hpl, eN]
    exact ⟨hLr, by omega⟩

/-- An act's bool. -/
def cb (j : Nat) : AV → Bool
  | .agg cs => bv (cs.getD j .nils)
  | _ => false
def actC (f : Nat → AV) (i : Nat) : AV := .agg [.bool (cb 0 (f i)), .int .i64 (cv 1 (f i)), .int .i64 (cv 2 (f i))]
theorem actC_flat (f : Nat → AV) (i : Nat) : Flat (actC f i) := flat_of _ rfl
theorem ofScAct {f : Nat → List AV} {i : Nat} {vs : List Value} (h : ScL [.bool, .int .i64, .int .i64] (f i) vs) : ofSc (f i) = actC (fun i => ofSc (f i)) i ∧ i64R (cv 1 (ofSc (f i))) := by
  obtain ⟨a, as1, v, vs, e1, rfl, s1, h⟩ := h.head
  obtain ⟨b, as2, v2, vs2, e2, rfl, s2, h⟩ := h.head
  obtain ⟨c, as3, v3, vs3, e3, rfl, s3, h⟩ := h.head
  obtain ⟨e4, rfl⟩ := h.done
  subst e2; subst e3; subst e4
  cases s1 with
  | bool x =>
    obtain ⟨y, rfl, rfl, hy⟩ := s2.int_inv
    obtain ⟨z, rfl, rfl, _⟩ := s3.int_inv
    refine ⟨?_, ?_⟩
    · show ofSc (f i) = .agg [.bool (cb 0 (ofSc (f i))), .int .i64 (cv 1 (ofSc (f i))), .int .i64 (cv 2 (ofSc (f i)))]
      rw [e1]; rfl
    · rw [e1]; exact bounds_i64 hy

def sArenaNever : Spec := fun args _ _ => match args with
  | [.rs 3 n false f] => some ⟨[(∀ i, i < n → f i = actC f i ∧ i64R (cv 1 (f i))) ∧ n ≤ maxLen], .bool true, [], []⟩
  | _ => none
theorem arenaNever_ok : SpecOK Try.prog 6 sArenaNever := by
  refine spec_own (by kernel_rfl) T_ok (sget_cons take_ok (sget_cons free_ok (sget_cons is_ok (sget_cons count_ok (sget_cons may_ok (sget_cons awake_ok sget_nil)))))) Try.func6 rfl rfl fun args hr nb out e => ?_
  unfold sArenaNever at e
  split at e
  · rename_i n f
    injection e with e; subst e
    refine ⟨(fun _ h => nomatch h), true, [.rs 3 n false (actC f)], rfl, fun hs => ?_⟩
    obtain ⟨h1, h2⟩ := hs _ List.mem_cons_self
    clear hs
    refine ⟨.cons _ _ _ _ (.rs _ _ _ _ _ _ fun i hi => ⟨(h1 i hi).1, (actC_flat f i).has⟩) .nil, ?_⟩
    refine evC_go0 (dec := []) (ks := [(0, 0), (0, 2)]) (s' := ⟨[(0, 0, Cont.cell (AV.rs 3 n false (actC f))), (0, 2, Cont.cell (AV.bool false))], 9, 134⟩) (by kernel_rfl) (by kernel_rfl) ?_
    refine evC_go0 (dec := []) (ks := [(0, 0), (0, 2), (0, 3), (17, 0), (17, 64), (17, 128)]) (s' := ⟨[(0, 0, Cont.cell (AV.rs 3 n false (actC f))), (0, 2, Cont.cell (AV.bool false)), (0, 3, Cont.cell (AV.ptr 17 0)), (17, 0, Cont.arr 64 fun x => AV.int IntKind.i64 0), (17, 64, Cont.arr 64 fun x => AV.bool false), (17, 128, Cont.top)], 33, 134⟩) (by kernel_rfl) (by kernel_rfl) ?_
    refine evC_go0 (dec := []) (ks := [(0, 0), (0, 2), (0, 3), (0, 4), (17, 0), (17, 64), (17, 128)]) (s' := ⟨[(0, 0, Cont.cell (AV.rs 3 n false (actC f))), (0, 2, Cont.cell (AV.bool false)), (0, 3, Cont.cell (AV.ptr 17 0)), (0, 4, Cont.cell AV.nils), (17, 0, Cont.arr 64 fun x => AV.int IntKind.i64 0), (17, 64, Cont.arr 64 fun x => AV.bool false), (17, 128, Cont.top)], 41, 134⟩) (by kernel_rfl) (by kernel_rfl) ?_
    refine evC_wk _ (.nil 0 4 1 3 (fun _ => .nils) (Nat.le_of_ble_eq_true rfl) rfl) ?_
    refine evC_go0 (dec := []) (ks := [(0, 0), (0, 2), (0, 3), (0, 4), (0, 5), (17, 0), (17, 64), (17, 128), (41, 0)]) (s' := ⟨[(0, 0, Cont.cell (AV.rs 3 n false (actC f))), (0, 2, Cont.cell (AV.bool false)), (0, 3, Cont.cell (AV.ptr 17 0)), (0, 4, Cont.cell (AV.vs 41)), (0, 5, Cont.cell (AV.int IntKind.i64 0)), (17, 0, Cont.arr 64 fun x => AV.int IntKind.i64 0), (17, 64, Cont.arr 64 fun x => AV.bool false), (17, 128, Cont.top), (41, 0, Cont.vec 1 3 0 fun x => AV.nils)], 50, 134⟩) (by kernel_rfl) (by kernel_rfl) ?_
    refine evC_seq ?_
    refine evC_go0 (dec := []) (ks := [(0, 0), (0, 2), (0, 3), (0, 4), (0, 5), (0, 6), (17, 0), (17, 64), (17, 128), (41, 0)]) (s' := ⟨[(0, 0, Cont.cell (AV.rs 3 n false (actC f))), (0, 2, Cont.cell (AV.bool false)), (0, 3, Cont.cell (AV.ptr 17 0)), (0, 4, Cont.cell (AV.vs 41)), (0, 5, Cont.cell (AV.int IntKind.i64 0)), (0, 6, Cont.cell (AV.int IntKind.i64 0)), (17, 0, Cont.arr 64 fun x => AV.int IntKind.i64 0), (17, 64, Cont.arr 64 fun x => AV.bool false), (17, 128, Cont.top), (41, 0, Cont.vec 1 3 0 fun x => AV.nils)], 58, 134⟩) (by kernel_rfl) (by kernel_rfl) ?_
    refine evC_block ?_
    refine evC_loop (ι := { x : (Nat → Int) × (Nat → Bool) × List Int × Nat // Inv x.1 x.2.1 x.2.2.1 x.2.2.2 ∧ x.2.2.2 ≤ n }) (fun x => ⟨[(0, 0, Cont.cell (AV.rs 3 n false (actC f))), (0, 2, Cont.cell (AV.bool false)), (0, 3, Cont.cell (AV.ptr 1 0)), (0, 4, Cont.cell (AV.vs 2)), (0, 5, .cell (.int .i64 (cnt x.1.2.1 64 : Nat))), (0, 6, .cell (.int .i64 (x.1.2.2.2 : Nat))), (1, 0, .arr 64 (fun j => .int .i64 (x.1.1 j))), (1, 64, .arr 64 (fun j => .bool (x.1.2.1 j))), (1, 128, Cont.top), (2, 0, .vec 1 3 x.1.2.2.1.length (lst x.1.2.2.1))], 3, 134⟩) (fun x => n - x.1.2.2.2) ⟨(fun _ => 0, fun _ => false, [], 0), Inv.zero, Nat.zero_le _⟩ (wk_go [17, 41] rfl (by decide) rfl rfl ⟨⟨_, rfl, rfl⟩, ⟨_, rfl, rfl⟩, ⟨_, rfl, rfl⟩, ⟨_, rfl, rfl⟩, ⟨_, rfl, rfl⟩, ⟨_, rfl, rfl⟩, ⟨_, rfl, ⟨rfl, fun _ _ => rfl⟩⟩, ⟨_, rfl, ⟨rfl, fun _ _ => rfl⟩⟩, ⟨_, rfl, trivial⟩, ⟨_, rfl, ⟨rfl, rfl, rfl, fun _ hi => absurd hi (Nat.not_lt_zero _)⟩⟩, trivial⟩) ?_
    rintro ⟨⟨F, G, L, i⟩, hI, hin⟩
    dsimp only at hI hin ⊢
    refine evC_seq ?_
    refine evC_go0 (dec := []) (ks := [(0, 0), (0, 2), (0, 3), (0, 4), (0, 5), (0, 6), (0, 24), (1, 0), (1, 64), (1, 128), (2, 0)]) (s' := ⟨[(0, 0, Cont.cell (AV.rs 3 n false (actC f))), (0, 2, Cont.cell (AV.bool false)), (0, 3, Cont.cell (AV.ptr 1 0)), (0, 4, Cont.cell (AV.vs 2)), (0, 5, Cont.cell (AV.int IntKind.i64 (↑(cnt G 64) : Int))), (0, 6, Cont.cell (AV.int IntKind.i64 (↑i : Int))), (0, 24, Cont.cell (AV.bool (bif decide ((↑i : Int) < (↑n : Int)) then decide ((↑i : Int) < 150) else false))), (1, 0, Cont.arr 64 fun j => AV.int IntKind.i64 (F j)), (1, 64, Cont.arr 64 fun j => AV.bool (G j)), (1, 128, Cont.top), (2, 0, Cont.vec 1 3 (List.length L) (lst L))], 67, 134⟩) (by kernel_rfl) (by kernel_rfl) ?_
    refine evC_if (q := bif decide ((↑i : Int) < (↑n : Int)) then decide ((↑i : Int) < 150) else false) (by kernel_rfl) (fun hc => ?_) (fun hc => ?_)
    · have hlt : i < n ∧ i < 150 := by
        have h := hc
        simp only [Bool.cond_false_right, Bool.and_eq_true, decide_eq_true_eq] at h
        omega
      clear hc
      refine evC_skip ?_
      refine then_normal ?_
      refine evC_seq ?_
      refine evC_block ?_
      refine evC_go (dec := []) (ks := [(0, 0), (0, 2), (0, 3), (0, 4), (0, 5), (0, 6), (0, 7), (1, 0), (1, 64), (1, 128), (2, 0)]) (ps := [(0 : Int) ≤ (↑i : Int), (↑i : Int) < (↑n : Int), (3 : Nat) = (3 : Nat)]) (s' := ⟨[(0, 0, Cont.cell (AV.rs 3 n false (actC f))), (0, 2, Cont.cell (AV.bool false)), (0, 3, Cont.cell (AV.ptr 1 0)), (0, 4, Cont.cell (AV.vs 2)), (0, 5, Cont.cell (AV.int IntKind.i64 (↑(cnt G 64) : Int))), (0, 6, Cont.cell (AV.int IntKind.i64 (↑i : Int))), (0, 7, Cont.cell (AV.int IntKind.i64 (cv 1 (f i)))), (1, 0, Cont.arr 64 fun j => AV.int IntKind.i64 (F j)), (1, 64, Cont.arr 64 fun j => AV.bool (G j)), (1, 128, Cont.top), (2, 0, Cont.vec 1 3 (List.length L) (lst L))], 115, 134⟩) (by kernel_rfl) (by kernel_rfl) ?_ ?_
      · (simp only [All]; (repeat' apply And.intro) <;> (try intro _) <;> (try intro _) <;> first | trivial | assumption | omega | rfl | exact ⟨_, rfl, rfl⟩ | exact ⟨rfl, rfl⟩ | exact ⟨fun _ => rfl, fun _ => rfl⟩ | (unfold maxLen; omega) | (unfold i64R; first | omega | decide) | decide)
      refine evC_cutTo (ι := { id : Int // i64R id }) (fun x => ⟨[(0, 0, Cont.cell (AV.rs 3 n false (actC f))), (0, 2, Cont.cell (AV.bool false)), (0, 3, Cont.cell (AV.ptr 1 0)), (0, 4, Cont.cell (AV.vs 2)), (0, 5, Cont.cell (AV.int IntKind.i64 (↑(cnt G 64) : Int))), (0, 6, Cont.cell (AV.int IntKind.i64 (↑i : Int))), (0, 7, .cell (.int .i64 x.1)), (1, 0, Cont.arr 64 fun j => AV.int IntKind.i64 (F j)), (1, 64, Cont.arr 64 fun j => AV.bool (G j)), (1, 128, Cont.top), (2, 0, Cont.vec 1 3 (List.length L) (lst L))], 3, 134⟩) ?_ ?_
      · refine evC_go (dec := []) (ks := [(0, 0), (0, 2), (0, 3), (0, 4), (0, 5), (0, 6), (0, 7), (0, 8), (1, 0), (1, 64), (1, 128), (2, 0)]) (ps := [(0 : Int) ≤ (↑i : Int), (↑i : Int) < (↑n : Int), (3 : Nat) = (3 : Nat)]) (s' := ⟨[(0, 0, Cont.cell (AV.rs 3 n false (actC f))), (0, 2, Cont.cell (AV.bool false)), (0, 3, Cont.cell (AV.ptr 1 0)), (0, 4, Cont.cell (AV.vs 2)), (0, 5, Cont.cell (AV.int IntKind.i64 (↑(cnt G 64) : Int))), (0, 6, Cont.cell (AV.int IntKind.i64 (↑i : Int))), (0, 7, Cont.cell (AV.int IntKind.i64 (cv 1 (f i)))), (0, 8, Cont.cell (AV.int IntKind.i64 (IntKind.i64.wrap (IntKind.i64.wrap ((↑(List.length L) : Int) - 1) - cv 2 (f i))))), (1, 0, Cont.arr 64 fun j => AV.int IntKind.i64 (F j)), (1, 64, Cont.arr 64 fun j => AV.bool (G j)), (1, 128, Cont.top), (2, 0, Cont.vec 1 3 (List.length L) (lst L))], 195, 134⟩) (by kernel_rfl) (by kernel_rfl) ?_ ?_
        · (simp only [All]; (repeat' apply And.intro) <;> (try intro _) <;> (try intro _) <;> first | trivial | assumption | omega | rfl | exact ⟨_, rfl, rfl⟩ | exact ⟨rfl, rfl⟩ | exact ⟨fun _ => rfl, fun _ => rfl⟩ | (unfold maxLen; omega) | (unfold i64R; first | omega | decide) | decide)
        generalize IntKind.i64.wrap (IntKind.i64.wrap ((L.length : Int) - 1) - cv 2 (f i)) = k
        refine evC_go (dec := []) (ks := [(0, 0), (0, 2), (0, 3), (0, 4), (0, 5), (0, 6), (0, 7), (0, 8), (0, 56), (1, 0), (1, 64), (1, 128), (2, 0)]) (ps := [(0 : Int) ≤ (↑i : Int), (↑i : Int) < (↑n : Int), (3 : Nat) = (3 : Nat)]) (s' := ⟨[(0, 0, Cont.cell (AV.rs 3 n false (actC f))), (0, 2, Cont.cell (AV.bool false)), (0, 3, Cont.cell (AV.ptr 1 0)), (0, 4, Cont.cell (AV.vs 2)), (0, 5, Cont.cell (AV.int IntKind.i64 (↑(cnt G 64) : Int))), (0, 6, Cont.cell (AV.int IntKind.i64 (↑i : Int))), (0, 7, Cont.cell (AV.int IntKind.i64 (cv 1 (f i)))), (0, 8, Cont.cell (AV.int IntKind.i64 k)), (0, 56, Cont.cell (AV.bool (bif bif decide (cv 2 (f i) ≥ 0) then decide (k ≥ 0) else false then decide (k < (↑(List.length L) : Int)) else false))), (1, 0, Cont.arr 64 fun j => AV.int IntKind.i64 (F j)), (1, 64, Cont.arr 64 fun j => AV.bool (G j)), (1, 128, Cont.top), (2, 0, Cont.vec 1 3 (List.length L) (lst L))], 323, 134⟩) (by kernel_rfl) (by kernel_rfl) ?_ ?_
        · (simp only [All]; (repeat' apply And.intro) <;> (try intro _) <;> (try intro _) <;> first | trivial | assumption | omega | rfl | exact ⟨_, rfl, rfl⟩ | exact ⟨rfl, rfl⟩ | exact ⟨fun _ => rfl, fun _ => rfl⟩ | (unfold maxLen; omega) | (unfold i64R; first | omega | decide) | decide)
        rw [cond_and, cond_and]
        refine evC_if (q := decide (cv 2 (f i) ≥ 0) && decide (k ≥ 0) && decide (k < (↑(List.length L) : Int))) (by kernel_rfl) (fun hc => ?_) (fun hc => ?_)
        · have hk : 0 ≤ k ∧ k < L.length := by
            have h := hc
            simp only [Bool.and_eq_true, decide_eq_true_eq] at h
            omega
          refine evC_goL (dec := []) (ks := [(0, 0), (0, 2), (0, 3), (0, 4), (0, 5), (0, 6), (0, 7), (1, 0), (1, 64), (1, 128), (2, 0)]) (ps := [(0 : Int) ≤ k, k < (↑(List.length L) : Int), (1 : Nat) = (1 : Nat), (0 : Int) ≤ k, k < (↑(List.length L) : Int), (1 : Nat) = (1 : Nat)]) (s' := ⟨[(0, 0, Cont.cell (AV.rs 3 n false (actC f))), (0, 2, Cont.cell (AV.bool false)), (0, 3, Cont.cell (AV.ptr 1 0)), (0, 4, Cont.cell (AV.vs 2)), (0, 5, Cont.cell (AV.int IntKind.i64 (↑(cnt G 64) : Int))), (0, 6, Cont.cell (AV.int IntKind.i64 (↑i : Int))), (0, 7, Cont.cell (AV.int IntKind.i64 (List.getD L (Int.toNat k) 0))), (1, 0, Cont.arr 64 fun j => AV.int IntKind.i64 (F j)), (1, 64, Cont.arr 64 fun j => AV.bool (G j)), (1, 128, Cont.top), (2, 0, Cont.vec 1 3 (List.length L) (lst L))], 363, 134⟩) (by kernel_rfl) (by kernel_rfl) ?_ ?_
          · (simp only [All]; (repeat' apply And.intro) <;> (try intro _) <;> (try intro _) <;> first | trivial | assumption | omega | rfl | exact ⟨_, rfl, rfl⟩ | exact ⟨rfl, rfl⟩ | exact ⟨fun _ => rfl, fun _ => rfl⟩ | (unfold maxLen; omega) | (unfold i64R; first | omega | decide) | decide)
          refine cut_normal (⟨L.getD k.toNat 0, ?_⟩) (wk_go [1, 2] rfl (by decide) rfl rfl ⟨⟨_, rfl, rfl⟩, ⟨_, rfl, rfl⟩, ⟨_, rfl, rfl⟩, ⟨_, rfl, rfl⟩, ⟨_, rfl, rfl⟩, ⟨_, rfl, rfl⟩, ⟨_, rfl, rfl⟩, ⟨_, rfl, ⟨rfl, fun _ _ => rfl⟩⟩, ⟨_, rfl, ⟨rfl, fun _ _ => rfl⟩⟩, ⟨_, rfl, trivial⟩, ⟨_, rfl, ⟨rfl, rfl, rfl, fun _ _ => rfl⟩⟩, trivial⟩)
          have hk2 : k.toNat < L.length := by omega
          have hm : L.getD k.toNat 0 ∈ L := by
            rw [List.getD_eq_getElem?_getD, List.getElem?_eq_getElem hk2]; exact List.getElem_mem hk2
          have h1 := hI.giv _ hm
          have h2 := plF_range (L.getD k.toNat 0)
          have h3 := hI.bnd (plF (L.getD k.toNat 0)).toNat (by omega)
          have h4 := hI.le
          unfold i64R; omega
        · refine evC_skip ?_
          refine cut_normal (⟨cv 1 (f i), ?_⟩) (wk_go [1, 2] rfl (by decide) rfl rfl ⟨⟨_, rfl, rfl⟩, ⟨_, rfl, rfl⟩, ⟨_, rfl, rfl⟩, ⟨_, rfl, rfl⟩, ⟨_, rfl, rfl⟩, ⟨_, rfl, rfl⟩, ⟨_, rfl, rfl⟩, ⟨_, rfl, ⟨rfl, fun _ _ => rfl⟩⟩, ⟨_, rfl, ⟨rfl, fun _ _ => rfl⟩⟩, ⟨_, rfl, trivial⟩, ⟨_, rfl, ⟨rfl, rfl, rfl, fun _ _ => rfl⟩⟩, trivial⟩)
          exact (h1 i hlt.1).2
      rintro ⟨id, hid⟩
      dsimp only
      refine evC_seq ?_
      refine evC_go (dec := []) (ks := [(0, 0), (0, 2), (0, 3), (0, 4), (0, 5), (0, 6), (0, 7), (0, 65), (1, 0), (1, 64), (1, 128), (2, 0)]) (ps := [(0 : Int) ≤ (↑i : Int), (↑i : Int) < (↑n : Int), (3 : Nat) = (3 : Nat)]) (s' := ⟨[(0, 0, Cont.cell (AV.rs 3 n false (actC f))), (0, 2, Cont.cell (AV.bool false)), (0, 3, Cont.cell (AV.ptr 1 0)), (0, 4, Cont.cell (AV.vs 2)), (0, 5, Cont.cell (AV.int IntKind.i64 (↑(cnt G 64) : Int))), (0, 6, Cont.cell (AV.int IntKind.i64 (↑i : Int))), (0, 7, Cont.cell (AV.int IntKind.i64 id)), (0, 65, Cont.cell (AV.bool (cb 0 (f i)))), (1, 0, Cont.arr 64 fun j => AV.int IntKind.i64 (F j)), (1, 64, Cont.arr 64 fun j => AV.bool (G j)), (1, 128, Cont.top), (2, 0, Cont.vec 1 3 (List.length L) (lst L))], 43, 134⟩) (by kernel_rfl) (by kernel_rfl) ?_ ?_
      · (simp only [All]; (repeat' apply And.intro) <;> (try intro _) <;> (try intro _) <;> first | trivial | assumption | omega | rfl | exact ⟨_, rfl, rfl⟩ | exact ⟨rfl, rfl⟩ | exact ⟨fun _ => rfl, fun _ => rfl⟩ | (unfold maxLen; omega) | (unfold i64R; first | omega | decide) | decide)
      have hcn := cnt_le G 64
      have hle := hI.le
      have hlen := hI.len
      refine evC_if (q := cb 0 (f i)) (by kernel_rfl) (fun hc => ?_) (fun hc => ?_)
      · clear hc
        refine evC_go (dec := []) (ks := [(0, 0), (0, 2), (0, 3), (0, 4), (0, 5), (0, 6), (0, 7), (0, 9), (1, 0), (1, 64), (1, 128), (2, 0)]) (ps := [IsAr (fun j => AV.int IntKind.i64 (F j)) fun j => AV.bool (G j), i64R id]) (s' := ⟨[(0, 0, Cont.cell (AV.rs 3 n false (actC f))), (0, 2, Cont.cell (AV.bool false)), (0, 3, Cont.cell (AV.ptr 1 0)), (0, 4, Cont.cell (AV.vs 2)), (0, 5, Cont.cell (AV.int IntKind.i64 (↑(cnt G 64) : Int))), (0, 6, Cont.cell (AV.int IntKind.i64 (↑i : Int))), (0, 7, Cont.cell (AV.int IntKind.i64 id)), (0, 9, Cont.cell (AV.bool (isF F G id))), (1, 0, Cont.arr 64 fun j => AV.int IntKind.i64 (F j)), (1, 64, Cont.arr 64 fun j => AV.bool (G j)), (1, 128, Cont.top), (2, 0, Cont.vec 1 3 (List.length L) (lst L))], 75, 134⟩) (by kernel_rfl) (by kernel_rfl) ?_ ?_
        · exact ⟨⟨fun _ => rfl, fun _ => rfl⟩, hid⟩
        refine evC_go (dec := []) (ks := [(0, 0), (0, 2), (0, 3), (0, 4), (0, 5), (0, 6), (0, 7), (0, 9), (0, 10), (0, 11), (1, 0), (1, 64), (1, 128), (2, 0), (123, 0), (123, 64), (123, 128)]) (ps := [IsAr (fun j => AV.int IntKind.i64 (F j)) fun j => AV.bool (G j), i64R id]) (s' := ⟨[(0, 0, Cont.cell (AV.rs 3 n false (actC f))), (0, 2, Cont.cell (AV.bool false)), (0, 3, Cont.cell (AV.ptr 1 0)), (0, 4, Cont.cell (AV.vs 2)), (0, 5, Cont.cell (AV.int IntKind.i64 (↑(cnt G 64) : Int))), (0, 6, Cont.cell (AV.int IntKind.i64 (↑i : Int))), (0, 7, Cont.cell (AV.int IntKind.i64 id)), (0, 9, Cont.cell (AV.bool (isF F G id))), (0, 10, Cont.cell (AV.ptr 123 0)), (0, 11, Cont.cell (AV.int IntKind.i64 (frE F G id))), (1, 0, Cont.arr 64 fun j => AV.int IntKind.i64 (F j)), (1, 64, Cont.arr 64 fun j => AV.bool (G j)), (1, 128, Cont.top), (2, 0, Cont.vec 1 3 (List.length L) (lst L)), (123, 0, Cont.arr 64 fun i => AV.int IntKind.i64 (frT F G id i)), (123, 64, Cont.arr 64 fun i => AV.bool (frL F G id i)), (123, 128, Cont.top)], 147, 134⟩) (by kernel_rfl) (by kernel_rfl) ?_ ?_
        · exact ⟨⟨fun _ => rfl, fun _ => rfl⟩, hid⟩
        refine evC_seq ?_
        refine evC_go0 (dec := []) (ks := [(0, 0), (0, 2), (0, 3), (0, 4), (0, 5), (0, 6), (0, 7), (0, 9), (0, 10), (0, 78), (1, 0), (1, 64), (1, 128), (2, 0), (123, 0), (123, 64), (123, 128)]) (s' := ⟨[(0, 0, Cont.cell (AV.rs 3 n false (actC f))), (0, 2, Cont.cell (AV.bool false)), (0, 3, Cont.cell (AV.ptr 1 0)), (0, 4, Cont.cell (AV.vs 2)), (0, 5, Cont.cell (AV.int IntKind.i64 (↑(cnt G 64) : Int))), (0, 6, Cont.cell (AV.int IntKind.i64 (↑i : Int))), (0, 7, Cont.cell (AV.int IntKind.i64 id)), (0, 9, Cont.cell (AV.bool (isF F G id))), (0, 10, Cont.cell (AV.ptr 123 0)), (0, 78, Cont.cell (AV.bool !(frE F G id == 0) == isF F G id)), (1, 0, Cont.arr 64 fun j => AV.int IntKind.i64 (F j)), (1, 64, Cont.arr 64 fun j => AV.bool (G j)), (1, 128, Cont.top), (2, 0, Cont.vec 1 3 (List.length L) (lst L)), (123, 0, Cont.arr 64 fun i => AV.int IntKind.i64 (frT F G id i)), (123, 64, Cont.arr 64 fun i => AV.bool (frL F G id i)), (123, 128, Cont.top)], 179, 134⟩) (by kernel_rfl) (by kernel_rfl) ?_
        refine evC_if (q := !(frE F G id == 0) == isF F G id) (by kernel_rfl) (fun hc => ?_) (fun hc => ?_)
        · rw [frE_zero hI.may] at hc; simp at hc
        clear hc
        refine evC_skip ?_
        refine then_normal ?_
        refine evC_seq ?_
        refine evC_go0 (dec := []) (ks := [(0, 0), (0, 2), (0, 3), (0, 4), (0, 5), (0, 6), (0, 7), (0, 10), (0, 79), (1, 0), (1, 64), (1, 128), (2, 0), (123, 0), (123, 64), (123, 128)]) (s' := ⟨[(0, 0, Cont.cell (AV.rs 3 n false (actC f))), (0, 2, Cont.cell (AV.bool false)), (0, 3, Cont.cell (AV.ptr 1 0)), (0, 4, Cont.cell (AV.vs 2)), (0, 5, Cont.cell (AV.int IntKind.i64 (↑(cnt G 64) : Int))), (0, 6, Cont.cell (AV.int IntKind.i64 (↑i : Int))), (0, 7, Cont.cell (AV.int IntKind.i64 id)), (0, 10, Cont.cell (AV.ptr 123 0)), (0, 79, Cont.cell (AV.bool (isF F G id))), (1, 0, Cont.arr 64 fun j => AV.int IntKind.i64 (F j)), (1, 64, Cont.arr 64 fun j => AV.bool (G j)), (1, 128, Cont.top), (2, 0, Cont.vec 1 3 (List.length L) (lst L)), (123, 0, Cont.arr 64 fun i => AV.int IntKind.i64 (frT F G id i)), (123, 64, Cont.arr 64 fun i => AV.bool (frL F G id i)), (123, 128, Cont.top)], 187, 134⟩) (by kernel_rfl) (by kernel_rfl) ?_
        refine evC_if (q := isF F G id) (by kernel_rfl) (fun hc => ?_) (fun hc => ?_)
        · have hf : isF F G id = true := hc
          clear hc
          obtain ⟨h5, h6, h7⟩ := hI.free hlt.2 hf
          refine evC_go0 (dec := []) (ks := [(0, 0), (0, 2), (0, 3), (0, 4), (0, 5), (0, 6), (0, 7), (1, 0), (1, 64), (1, 128), (2, 0)]) (s' := ⟨[(0, 0, Cont.cell (AV.rs 3 n false (actC f))), (0, 2, Cont.cell (AV.bool false)), (0, 3, Cont.cell (AV.ptr 1 0)), (0, 4, Cont.cell (AV.vs 2)), (0, 5, Cont.cell (AV.int IntKind.i64 (↑(cnt G 64) : Int))), (0, 6, Cont.cell (AV.int IntKind.i64 (↑i : Int))), (0, 7, Cont.cell (AV.int IntKind.i64 id)), (1, 0, Cont.arr 64 fun i => AV.int IntKind.i64 (frT F G id i)), (1, 64, Cont.arr 64 fun i => AV.bool (frL F G id i)), (1, 128, Cont.top), (2, 0, Cont.vec 1 3 (List.length L) (lst L))], 203, 134⟩) (by kernel_rfl) (by kernel_rfl) ?_
          refine evC_go0 (dec := []) (ks := [(0, 0), (0, 2), (0, 3), (0, 4), (0, 5), (0, 6), (0, 7), (1, 0), (1, 64), (1, 128), (2, 0)]) (s' := ⟨[(0, 0, Cont.cell (AV.rs 3 n false (actC f))), (0, 2, Cont.cell (AV.bool false)), (0, 3, Cont.cell (AV.ptr 1 0)), (0, 4, Cont.cell (AV.vs 2)), (0, 5, Cont.cell (AV.int IntKind.i64 (IntKind.i64.wrap ((↑(cnt G 64) : Int) - 1)))), (0, 6, Cont.cell (AV.int IntKind.i64 (↑i : Int))), (0, 7, Cont.cell (AV.int IntKind.i64 id)), (1, 0, Cont.arr 64 fun i => AV.int IntKind.i64 (frT F G id i)), (1, 64, Cont.arr 64 fun i => AV.bool (frL F G id i)), (1, 128, Cont.top), (2, 0, Cont.vec 1 3 (List.length L) (lst L))], 227, 134⟩) (by kernel_rfl) (by kernel_rfl) ?_
          refine evC_go (dec := []) (ks := [(0, 0), (0, 2), (0, 3), (0, 4), (0, 5), (0, 6), (0, 85), (1, 0), (1, 64), (1, 128), (2, 0)]) (ps := [IsAr (fun i => AV.int IntKind.i64 (frT F G id i)) fun i => AV.bool (frL F G id i), i64R id]) (s' := ⟨[(0, 0, Cont.cell (AV.rs 3 n false (actC f))), (0, 2, Cont.cell (AV.bool false)), (0, 3, Cont.cell (AV.ptr 1 0)), (0, 4, Cont.cell (AV.vs 2)), (0, 5, Cont.cell (AV.int IntKind.i64 (IntKind.i64.wrap ((↑(cnt G 64) : Int) - 1)))), (0, 6, Cont.cell (AV.int IntKind.i64 (↑i : Int))), (0, 85, Cont.cell (AV.bool (isF (frT F G id) (frL F G id) id))), (1, 0, Cont.arr 64 fun i => AV.int IntKind.i64 (frT F G id i)), (1, 64, Cont.arr 64 fun i => AV.bool (frL F G id i)), (1, 128, Cont.top), (2, 0, Cont.vec 1 3 (List.length L) (lst L))], 251, 134⟩) (by kernel_rfl) (by kernel_rfl) ?_ ?_
          · exact ⟨⟨fun _ => rfl, fun _ => rfl⟩, hid⟩
          refine evC_if (q := isF (frT F G id) (frL F G id) id) (by kernel_rfl) (fun hc => ?_) (fun hc => ?_)
          · rw [h7] at hc; cases hc
          refine evC_skip ?_
          refine then_normal ?_
          refine evC_exit ?_
          refine then_exit ?_
          refine block_exit ?_
          refine then_normal ?_
          refine evC_goL0 (dec := []) (ks := [(0, 0), (0, 2), (0, 3), (0, 4), (0, 5), (0, 6), (1, 0), (1, 64), (1, 128), (2, 0)]) (s' := ⟨[(0, 0, Cont.cell (AV.rs 3 n false (actC f))), (0, 2, Cont.cell (AV.bool false)), (0, 3, Cont.cell (AV.ptr 1 0)), (0, 4, Cont.cell (AV.vs 2)), (0, 5, Cont.cell (AV.int IntKind.i64 (IntKind.i64.wrap ((↑(cnt G 64) : Int) - 1)))), (0, 6, Cont.cell (AV.int IntKind.i64 (IntKind.i64.wrap ((↑i : Int) + 1)))), (1, 0, Cont.arr 64 fun i => AV.int IntKind.i64 (frT F G id i)), (1, 64, Cont.arr 64 fun i => AV.bool (frL F G id i)), (1, 128, Cont.top), (2, 0, Cont.vec 1 3 (List.length L) (lst L))], 275, 134⟩) (by kernel_rfl) (by kernel_rfl) ?_
          rw [wrap_add_one hlt.2 (by omega), h6, i64_in _ (by omega)]
          refine round_normal (⟨(frT F G id, frL F G id, L, i + 1), h5, ?_⟩) (wk_go [1, 2] rfl (by decide) rfl rfl ⟨⟨_, rfl, rfl⟩, ⟨_, rfl, rfl⟩, ⟨_, rfl, rfl⟩, ⟨_, rfl, rfl⟩, ⟨_, rfl, ?_⟩, ⟨_, rfl, rfl⟩, ⟨_, rfl, ⟨rfl, fun _ _ => rfl⟩⟩, ⟨_, rfl, ⟨rfl, fun _ _ => rfl⟩⟩, ⟨_, rfl, trivial⟩, ⟨_, rfl, ⟨rfl, rfl, rfl, fun _ _ => rfl⟩⟩, trivial⟩) ?_
          · show i + 1 ≤ n; omega
          · show AV.int .i64 _ = AV.int .i64 ((cnt (frL F G id) 64 : Nat) : Int)
            congr 1; omega
          · show n - (i + 1) < n - i; omega
        · refine evC_skip ?_
          refine then_normal ?_
          refine evC_exit ?_
          refine then_exit ?_
          refine block_exit ?_
          refine then_normal ?_
          refine evC_goL0 (dec := []) (ks := [(0, 0), (0, 2), (0, 3), (0, 4), (0, 5), (0, 6), (1, 0), (1, 64), (1, 128), (2, 0)]) (s' := ⟨[(0, 0, Cont.cell (AV.rs 3 n false (actC f))), (0, 2, Cont.cell (AV.bool false)), (0, 3, Cont.cell (AV.ptr 1 0)), (0, 4, Cont.cell (AV.vs 2)), (0, 5, Cont.cell (AV.int IntKind.i64 (↑(cnt G 64) : Int))), (0, 6, Cont.cell (AV.int IntKind.i64 (IntKind.i64.wrap ((↑i : Int) + 1)))), (1, 0, Cont.arr 64 fun j => AV.int IntKind.i64 (F j)), (1, 64, Cont.arr 64 fun j => AV.bool (G j)), (1, 128, Cont.top), (2, 0, Cont.vec 1 3 (List.length L) (lst L))], 211, 134⟩) (by kernel_rfl) (by kernel_rfl) ?_
          rw [wrap_add_one hlt.2 (by omega)]
          refine round_normal (⟨(F, G, L, i + 1), hI.same hlt.2, ?_⟩) (wk_go [1, 2] rfl (by decide) rfl rfl ⟨⟨_, rfl, rfl⟩, ⟨_, rfl, rfl⟩, ⟨_, rfl, rfl⟩, ⟨_, rfl, rfl⟩, ⟨_, rfl, rfl⟩, ⟨_, rfl, rfl⟩, ⟨_, rfl, ⟨rfl, fun _ _ => rfl⟩⟩, ⟨_, rfl, ⟨rfl, fun _ _ => rfl⟩⟩, ⟨_, rfl, trivial⟩, ⟨_, rfl, ⟨rfl, rfl, rfl, fun _ _ => rfl⟩⟩, trivial⟩) ?_
          · show i + 1 ≤ n; omega
          · show n - (i + 1) < n - i; omega
      · clear hc
        refine evC_skip ?_
        refine then_normal ?_
        refine evC_go (dec := []) (ks := [(0, 0), (0, 2), (0, 3), (0, 4), (0, 5), (0, 6), (0, 12), (0, 13), (0, 14), (1, 0), (1, 64), (1, 128), (2, 0), (91, 0), (91, 64), (91, 128)]) (ps := [IsAr (fun j => AV.int IntKind.i64 (F j)) fun j => AV.bool (G j)]) (s' := ⟨[(0, 0, Cont.cell (AV.rs 3 n false (actC f))), (0, 2, Cont.cell (AV.bool false)), (0, 3, Cont.cell (AV.ptr 1 0)), (0, 4, Cont.cell (AV.vs 2)), (0, 5, Cont.cell (AV.int IntKind.i64 (↑(cnt G 64) : Int))), (0, 6, Cont.cell (AV.int IntKind.i64 (↑i : Int))), (0, 12, Cont.cell (AV.ptr 91 0)), (0, 13, Cont.cell (AV.int IntKind.i64 (tkN F G))), (0, 14, Cont.cell (AV.int IntKind.i64 (tkE F G))), (1, 0, Cont.arr 64 fun j => AV.int IntKind.i64 (F j)), (1, 64, Cont.arr 64 fun j => AV.bool (G j)), (1, 128, Cont.top), (2, 0, Cont.vec 1 3 (List.length L) (lst L)), (91, 0, Cont.arr 64 fun i => AV.int IntKind.i64 (tkT F G i)), (91, 64, Cont.arr 64 fun i => AV.bool (tkL F G i)), (91, 128, Cont.top)], 123, 134⟩) (by kernel_rfl) (by kernel_rfl) ?_ ?_
        · (simp only [All]; (repeat' apply And.intro) <;> (try intro _) <;> (try intro _) <;> first | trivial | assumption | omega | rfl | exact ⟨_, rfl, rfl⟩ | exact ⟨rfl, rfl⟩ | exact ⟨fun _ => rfl, fun _ => rfl⟩ | (unfold maxLen; omega) | (unfold i64R; first | omega | decide) | decide)
        cases hb : Nat.blt (room F G) 64 with
        | false =>
          have e4 : tkE F G = 5 := by unfold tkE; rw [hI.may, hb]; rfl
          have hr : ¬ room F G < 64 := by
            intro h
            have : Nat.blt (room F G) 64 = true := by simpa [Nat.blt_eq] using h
            rw [hb] at this; cases this
          have hfull : cnt G 64 = 64 := cnt_all (room_full hr fun p hp => by have := hI.bnd p hp; omega)
          rw [e4]
          refine evC_seq ?_
          refine evC_go0 (dec := []) (ks := [(0, 0), (0, 2), (0, 3), (0, 4), (0, 5), (0, 6), (0, 12), (0, 13), (0, 14), (0, 93), (1, 0), (1, 64), (1, 128), (2, 0), (91, 0), (91, 64), (91, 128)]) (s' := ⟨[(0, 0, Cont.cell (AV.rs 3 n false (actC f))), (0, 2, Cont.cell (AV.bool false)), (0, 3, Cont.cell (AV.ptr 1 0)), (0, 4, Cont.cell (AV.vs 2)), (0, 5, Cont.cell (AV.int IntKind.i64 (↑(cnt G 64) : Int))), (0, 6, Cont.cell (AV.int IntKind.i64 (↑i : Int))), (0, 12, Cont.cell (AV.ptr 91 0)), (0, 13, Cont.cell (AV.int IntKind.i64 (tkN F G))), (0, 14, Cont.cell (AV.int IntKind.i64 5)), (0, 93, Cont.cell (AV.bool true)), (1, 0, Cont.arr 64 fun j => AV.int IntKind.i64 (F j)), (1, 64, Cont.arr 64 fun j => AV.bool (G j)), (1, 128, Cont.top), (2, 0, Cont.vec 1 3 (List.length L) (lst L)), (91, 0, Cont.arr 64 fun i => AV.int IntKind.i64 (tkT F G i)), (91, 64, Cont.arr 64 fun i => AV.bool (tkL F G i)), (91, 128, Cont.top)], 139, 134⟩) (by kernel_rfl) (by kernel_rfl) ?_
          refine evC_if (q := true) (by kernel_rfl) (fun hc => ?_) (fun hc => ?_)
          · clear hc
            refine evC_seq ?_
            refine evC_go0 (dec := []) (ks := [(0, 0), (0, 2), (0, 3), (0, 4), (0, 5), (0, 6), (0, 12), (0, 13), (0, 99), (1, 0), (1, 64), (1, 128), (2, 0), (91, 0), (91, 64), (91, 128)]) (s' := ⟨[(0, 0, Cont.cell (AV.rs 3 n false (actC f))), (0, 2, Cont.cell (AV.bool false)), (0, 3, Cont.cell (AV.ptr 1 0)), (0, 4, Cont.cell (AV.vs 2)), (0, 5, Cont.cell (AV.int IntKind.i64 (↑(cnt G 64) : Int))), (0, 6, Cont.cell (AV.int IntKind.i64 (↑i : Int))), (0, 12, Cont.cell (AV.ptr 91 0)), (0, 13, Cont.cell (AV.int IntKind.i64 (tkN F G))), (0, 99, Cont.cell (AV.bool (bif 5 != 5 then true else (↑(cnt G 64) : Int) != 64))), (1, 0, Cont.arr 64 fun j => AV.int IntKind.i64 (F j)), (1, 64, Cont.arr 64 fun j => AV.bool (G j)), (1, 128, Cont.top), (2, 0, Cont.vec 1 3 (List.length L) (lst L)), (91, 0, Cont.arr 64 fun i => AV.int IntKind.i64 (tkT F G i)), (91, 64, Cont.arr 64 fun i => AV.bool (tkL F G i)), (91, 128, Cont.top)], 187, 134⟩) (by kernel_rfl) (by kernel_rfl) ?_
            refine evC_if (q := bif 5 != 5 then true else (↑(cnt G 64) : Int) != 64) (by kernel_rfl) (fun hc => ?_) (fun hc => ?_)
            · exfalso
              rw [hfull] at hc; simp at hc
            clear hc
            refine evC_skip ?_
            refine then_normal ?_
            refine evC_exit ?_
            refine then_exit ?_
            refine block_exit ?_
            refine then_normal ?_
            refine evC_goL0 (dec := []) (ks := [(0, 0), (0, 2), (0, 3), (0, 4), (0, 5), (0, 6), (1, 0), (1, 64), (1, 128), (2, 0)]) (s' := ⟨[(0, 0, Cont.cell (AV.rs 3 n false (actC f))), (0, 2, Cont.cell (AV.bool false)), (0, 3, Cont.cell (AV.ptr 1 0)), (0, 4, Cont.cell (AV.vs 2)), (0, 5, Cont.cell (AV.int IntKind.i64 (↑(cnt G 64) : Int))), (0, 6, Cont.cell (AV.int IntKind.i64 (IntKind.i64.wrap ((↑i : Int) + 1)))), (1, 0, Cont.arr 64 fun j => AV.int IntKind.i64 (F j)), (1, 64, Cont.arr 64 fun j => AV.bool (G j)), (1, 128, Cont.top), (2, 0, Cont.vec 1 3 (List.length L) (lst L))], 211, 134⟩) (by kernel_rfl) (by kernel_rfl) ?_
            rw [wrap_add_one hlt.2 (by omega)]
            refine round_normal (⟨(F, G, L, i + 1), hI.same hlt.2, ?_⟩) (wk_go [1, 2] rfl (by decide) rfl rfl ⟨⟨_, rfl, rfl⟩, ⟨_, rfl, rfl⟩, ⟨_, rfl, rfl⟩, ⟨_, rfl, rfl⟩, ⟨_, rfl, rfl⟩, ⟨_, rfl, rfl⟩, ⟨_, rfl, ⟨rfl, fun _ _ => rfl⟩⟩, ⟨_, rfl, ⟨rfl, fun _ _ => rfl⟩⟩, ⟨_, rfl, trivial⟩, ⟨_, rfl, ⟨rfl, rfl, rfl, fun _ _ => rfl⟩⟩, trivial⟩) ?_
            · show i + 1 ≤ n; omega
            · show n - (i + 1) < n - i; omega
          · simp at hc
        | true =>
          have e4 : tkE F G = 0 := by unfold tkE; rw [hI.may, hb]; rfl
          have hr : room F G < 64 := by simpa [Nat.blt_eq] using hb
          obtain ⟨h5, h6, h7, h8, h9⟩ := hI.take hlt.2 hr
          rw [e4]
          refine evC_seq ?_
          refine evC_go0 (dec := []) (ks := [(0, 0), (0, 2), (0, 3), (0, 4), (0, 5), (0, 6), (0, 12), (0, 13), (0, 14), (0, 93), (1, 0), (1, 64), (1, 128), (2, 0), (91, 0), (91, 64), (91, 128)]) (s' := ⟨[(0, 0, Cont.cell (AV.rs 3 n false (actC f))), (0, 2, Cont.cell (AV.bool false)), (0, 3, Cont.cell (AV.ptr 1 0)), (0, 4, Cont.cell (AV.vs 2)), (0, 5, Cont.cell (AV.int IntKind.i64 (↑(cnt G 64) : Int))), (0, 6, Cont.cell (AV.int IntKind.i64 (↑i : Int))), (0, 12, Cont.cell (AV.ptr 91 0)), (0, 13, Cont.cell (AV.int IntKind.i64 (tkN F G))), (0, 14, Cont.cell (AV.int IntKind.i64 0)), (0, 93, Cont.cell (AV.bool false)), (1, 0, Cont.arr 64 fun j => AV.int IntKind.i64 (F j)), (1, 64, Cont.arr 64 fun j => AV.bool (G j)), (1, 128, Cont.top), (2, 0, Cont.vec 1 3 (List.length L) (lst L)), (91, 0, Cont.arr 64 fun i => AV.int IntKind.i64 (tkT F G i)), (91, 64, Cont.arr 64 fun i => AV.bool (tkL F G i)), (91, 128, Cont.top)], 139, 134⟩) (by kernel_rfl) (by kernel_rfl) ?_
          refine evC_if (q := false) (by kernel_rfl) (fun hc => ?_) (fun hc => ?_)
          · simp at hc
          clear hc
          refine evC_skip ?_
          refine then_normal ?_
          refine evC_seq ?_
          refine evC_go0 (dec := []) (ks := [(0, 0), (0, 2), (0, 3), (0, 4), (0, 5), (0, 6), (0, 12), (0, 13), (0, 15), (1, 0), (1, 64), (1, 128), (2, 0), (91, 0), (91, 64), (91, 128)]) (s' := ⟨[(0, 0, Cont.cell (AV.rs 3 n false (actC f))), (0, 2, Cont.cell (AV.bool false)), (0, 3, Cont.cell (AV.ptr 1 0)), (0, 4, Cont.cell (AV.vs 2)), (0, 5, Cont.cell (AV.int IntKind.i64 (↑(cnt G 64) : Int))), (0, 6, Cont.cell (AV.int IntKind.i64 (↑i : Int))), (0, 12, Cont.cell (AV.ptr 91 0)), (0, 13, Cont.cell (AV.int IntKind.i64 (tkN F G))), (0, 15, Cont.cell (AV.int IntKind.i64 0)), (1, 0, Cont.arr 64 fun j => AV.int IntKind.i64 (F j)), (1, 64, Cont.arr 64 fun j => AV.bool (G j)), (1, 128, Cont.top), (2, 0, Cont.vec 1 3 (List.length L) (lst L)), (91, 0, Cont.arr 64 fun i => AV.int IntKind.i64 (tkT F G i)), (91, 64, Cont.arr 64 fun i => AV.bool (tkL F G i)), (91, 128, Cont.top)], 147, 134⟩) (by kernel_rfl) (by kernel_rfl) ?_
          refine evC_block ?_
          refine evC_loop (ι := { k : Nat // k ≤ L.length }) (fun x => ⟨[(0, 0, Cont.cell (AV.rs 3 n false (actC f))), (0, 2, Cont.cell (AV.bool false)), (0, 3, Cont.cell (AV.ptr 1 0)), (0, 4, Cont.cell (AV.vs 2)), (0, 5, Cont.cell (AV.int IntKind.i64 (↑(cnt G 64) : Int))), (0, 6, Cont.cell (AV.int IntKind.i64 (↑i : Int))), (0, 12, Cont.cell (AV.ptr 3 0)), (0, 13, Cont.cell (AV.int IntKind.i64 (tkN F G))), (0, 15, .cell (.int .i64 (x.1 : Nat))), (1, 0, Cont.arr 64 fun j => AV.int IntKind.i64 (F j)), (1, 64, Cont.arr 64 fun j => AV.bool (G j)), (1, 128, Cont.top), (2, 0, Cont.vec 1 3 (List.length L) (lst L)), (3, 0, Cont.arr 64 fun i => AV.int IntKind.i64 (tkT F G i)), (3, 64, Cont.arr 64 fun i => AV.bool (tkL F G i)), (3, 128, Cont.top)], 4, 134⟩) (fun x => L.length - x.1) ⟨0, Nat.zero_le _⟩ (wk_go [1, 2, 91] rfl (by decide) rfl rfl ⟨⟨_, rfl, rfl⟩, ⟨_, rfl, rfl⟩, ⟨_, rfl, rfl⟩, ⟨_, rfl, rfl⟩, ⟨_, rfl, rfl⟩, ⟨_, rfl, rfl⟩, ⟨_, rfl, rfl⟩, ⟨_, rfl, rfl⟩, ⟨_, rfl, rfl⟩, ⟨_, rfl, rfl, fun _ _ => rfl⟩, ⟨_, rfl, rfl, fun _ _ => rfl⟩, ⟨_, rfl, trivial⟩, ⟨_, rfl, rfl, rfl, rfl, fun _ _ => rfl⟩, ⟨_, rfl, rfl, fun _ _ => rfl⟩, ⟨_, rfl, rfl, fun _ _ => rfl⟩, ⟨_, rfl, trivial⟩, trivial⟩) ?_
          rintro ⟨k, hk⟩
          refine evC_seq ?_
          refine evC_go0 (dec := []) (ks := [(0, 0), (0, 2), (0, 3), (0, 4), (0, 5), (0, 6), (0, 12), (0, 13), (0, 15), (0, 103), (1, 0), (1, 64), (1, 128), (2, 0), (3, 0), (3, 64), (3, 128)]) (s' := ⟨[(0, 0, Cont.cell (AV.rs 3 n false (actC f))), (0, 2, Cont.cell (AV.bool false)), (0, 3, Cont.cell (AV.ptr 1 0)), (0, 4, Cont.cell (AV.vs 2)), (0, 5, Cont.cell (AV.int IntKind.i64 (↑(cnt G 64) : Int))), (0, 6, Cont.cell (AV.int IntKind.i64 (↑i : Int))), (0, 12, Cont.cell (AV.ptr 3 0)), (0, 13, Cont.cell (AV.int IntKind.i64 (tkN F G))), (0, 15, Cont.cell (AV.int IntKind.i64 (↑k : Int))), (0, 103, Cont.cell (AV.bool (decide ((↑k : Int) < (↑(List.length L) : Int))))), (1, 0, Cont.arr 64 fun j => AV.int IntKind.i64 (F j)), (1, 64, Cont.arr 64 fun j => AV.bool (G j)), (1, 128, Cont.top), (2, 0, Cont.vec 1 3 (List.length L) (lst L)), (3, 0, Cont.arr 64 fun i => AV.int IntKind.i64 (tkT F G i)), (3, 64, Cont.arr 64 fun i => AV.bool (tkL F G i)), (3, 128, Cont.top)], 36, 134⟩) (by kernel_rfl) (by kernel_rfl) ?_
          refine evC_if (q := decide ((↑k : Int) < (↑(List.length L) : Int))) (by kernel_rfl) (fun hc => ?_) (fun hc => ?_)
          · have hk2 : k < L.length := by have := of_decide_eq_true hc; omega
            clear hc
            refine evC_skip ?_
            refine then_normal ?_
            refine evC_seq ?_
            refine evC_block ?_
            refine evC_go (dec := []) (ks := [(0, 0), (0, 2), (0, 3), (0, 4), (0, 5), (0, 6), (0, 12), (0, 13), (0, 15), (0, 111), (1, 0), (1, 64), (1, 128), (2, 0), (3, 0), (3, 64), (3, 128)]) (ps := [(0 : Int) ≤ (↑k : Int), (↑k : Int) < (↑(List.length L) : Int), (1 : Nat) = (1 : Nat), (0 : Int) ≤ (↑k : Int), (↑k : Int) < (↑(List.length L) : Int), (1 : Nat) = (1 : Nat)]) (s' := ⟨[(0, 0, Cont.cell (AV.rs 3 n false (actC f))), (0, 2, Cont.cell (AV.bool false)), (0, 3, Cont.cell (AV.ptr 1 0)), (0, 4, Cont.cell (AV.vs 2)), (0, 5, Cont.cell (AV.int IntKind.i64 (↑(cnt G 64) : Int))), (0, 6, Cont.cell (AV.int IntKind.i64 (↑i : Int))), (0, 12, Cont.cell (AV.ptr 3 0)), (0, 13, Cont.cell (AV.int IntKind.i64 (tkN F G))), (0, 15, Cont.cell (AV.int IntKind.i64 (↑k : Int))), (0, 111, Cont.cell (AV.bool (List.getD L k 0 == tkN F G))), (1, 0, Cont.arr 64 fun j => AV.int IntKind.i64 (F j)), (1, 64, Cont.arr 64 fun j => AV.bool (G j)), (1, 128, Cont.top), (2, 0, Cont.vec 1 3 (List.length L) (lst L)), (3, 0, Cont.arr 64 fun i => AV.int IntKind.i64 (tkT F G i)), (3, 64, Cont.arr 64 fun i => AV.bool (tkL F G i)), (3, 128, Cont.top)], 84, 134⟩) (by kernel_rfl) (by kernel_rfl) ?_ ?_
            · (simp only [All]; (repeat' apply And.intro) <;> (try intro _) <;> (try intro _) <;> first | trivial | assumption | omega | rfl | exact ⟨_, rfl, rfl⟩ | exact ⟨rfl, rfl⟩ | exact ⟨fun _ => rfl, fun _ => rfl⟩ | (unfold maxLen; omega) | (unfold i64R; first | omega | decide) | decide)
            refine evC_if (q := List.getD L k 0 == tkN F G) (by kernel_rfl) (fun hc => ?_) (fun hc => ?_)
            · exfalso
              have hm : L.getD k 0 ∈ L := by
                rw [List.getD_eq_getElem?_getD, List.getElem?_eq_getElem hk2]; exact List.getElem_mem hk2
              have : L.getD k 0 = tkN F G := by simpa using hc
              rw [this] at hm
              exact h7 hm
            clear hc
            refine evC_skip ?_
            refine block_normal ?_
            refine then_normal ?_
            refine evC_goL0 (dec := []) (ks := [(0, 0), (0, 2), (0, 3), (0, 4), (0, 5), (0, 6), (0, 12), (0, 13), (0, 15), (1, 0), (1, 64), (1, 128), (2, 0), (3, 0), (3, 64), (3, 128)]) (s' := ⟨[(0, 0, Cont.cell (AV.rs 3 n false (actC f))), (0, 2, Cont.cell (AV.bool false)), (0, 3, Cont.cell (AV.ptr 1 0)), (0, 4, Cont.cell (AV.vs 2)), (0, 5, Cont.cell (AV.int IntKind.i64 (↑(cnt G 64) : Int))), (0, 6, Cont.cell (AV.int IntKind.i64 (↑i : Int))), (0, 12, Cont.cell (AV.ptr 3 0)), (0, 13, Cont.cell (AV.int IntKind.i64 (tkN F G))), (0, 15, Cont.cell (AV.int IntKind.i64 (IntKind.i64.wrap ((↑k : Int) + 1)))), (1, 0, Cont.arr 64 fun j => AV.int IntKind.i64 (F j)), (1, 64, Cont.arr 64 fun j => AV.bool (G j)), (1, 128, Cont.top), (2, 0, Cont.vec 1 3 (List.length L) (lst L)), (3, 0, Cont.arr 64 fun i => AV.int IntKind.i64 (tkT F G i)), (3, 64, Cont.arr 64 fun i => AV.bool (tkL F G i)), (3, 128, Cont.top)], 108, 134⟩) (by kernel_rfl) (by kernel_rfl) ?_
            rw [wrap_add_one hk2 (by have := hI.len; omega)]
            refine round_normal (⟨k + 1, by omega⟩) (wk_go [1, 2, 3] rfl (by decide) rfl rfl ⟨⟨_, rfl, rfl⟩, ⟨_, rfl, rfl⟩, ⟨_, rfl, rfl⟩, ⟨_, rfl, rfl⟩, ⟨_, rfl, rfl⟩, ⟨_, rfl, rfl⟩, ⟨_, rfl, rfl⟩, ⟨_, rfl, rfl⟩, ⟨_, rfl, rfl⟩, ⟨_, rfl, ⟨rfl, fun _ _ => rfl⟩⟩, ⟨_, rfl, ⟨rfl, fun _ _ => rfl⟩⟩, ⟨_, rfl, trivial⟩, ⟨_, rfl, ⟨rfl, rfl, rfl, fun _ _ => rfl⟩⟩, ⟨_, rfl, ⟨rfl, fun _ _ => rfl⟩⟩, ⟨_, rfl, ⟨rfl, fun _ _ => rfl⟩⟩, ⟨_, rfl, trivial⟩, trivial⟩) ?_
            show L.length - (k + 1) < L.length - k; omega
          · have hk2 : k = L.length := by have := of_decide_eq_false hc; omega
            subst hk2
            clear hc
            refine evC_exit ?_
            refine then_exit ?_
            refine round_exit ?_
            refine block_exit ?_
            refine then_normal ?_
            refine evC_go0 (dec := []) (ks := [(0, 0), (0, 2), (0, 3), (0, 4), (0, 5), (0, 6), (0, 13), (1, 0), (1, 64), (1, 128), (2, 0)]) (s' := ⟨[(0, 0, Cont.cell (AV.rs 3 n false (actC f))), (0, 2, Cont.cell (AV.bool false)), (0, 3, Cont.cell (AV.ptr 1 0)), (0, 4, Cont.cell (AV.vs 2)), (0, 5, Cont.cell (AV.int IntKind.i64 (↑(cnt G 64) : Int))), (0, 6, Cont.cell (AV.int IntKind.i64 (↑i : Int))), (0, 13, Cont.cell (AV.int IntKind.i64 (tkN F G))), (1, 0, Cont.arr 64 fun i => AV.int IntKind.i64 (tkT F G i)), (1, 64, Cont.arr 64 fun i => AV.bool (tkL F G i)), (1, 128, Cont.top), (2, 0, Cont.vec 1 3 (List.length L) (lst L))], 52, 134⟩) (by kernel_rfl) (by kernel_rfl) ?_
            refine evC_go0 (dec := []) (ks := [(0, 0), (0, 2), (0, 3), (0, 4), (0, 5), (0, 6), (0, 13), (1, 0), (1, 64), (1, 128), (2, 0)]) (s' := ⟨[(0, 0, Cont.cell (AV.rs 3 n false (actC f))), (0, 2, Cont.cell (AV.bool false)), (0, 3, Cont.cell (AV.ptr 1 0)), (0, 4, Cont.cell (AV.vs 2)), (0, 5, Cont.cell (AV.int IntKind.i64 (IntKind.i64.wrap ((↑(cnt G 64) : Int) + 1)))), (0, 6, Cont.cell (AV.int IntKind.i64 (↑i : Int))), (0, 13, Cont.cell (AV.int IntKind.i64 (tkN F G))), (1, 0, Cont.arr 64 fun i => AV.int IntKind.i64 (tkT F G i)), (1, 64, Cont.arr 64 fun i => AV.bool (tkL F G i)), (1, 128, Cont.top), (2, 0, Cont.vec 1 3 (List.length L) (lst L))], 76, 134⟩) (by kernel_rfl) (by kernel_rfl) ?_
            refine evC_go (dec := []) (ks := [(0, 0), (0, 2), (0, 3), (0, 4), (0, 5), (0, 6), (0, 13), (1, 0), (1, 64), (1, 128), (100, 0)]) (ps := [(List.length L + (1 : Nat)) * (8 : Nat) ≤ (140737488355328 : Nat), List.length L + (1 : Nat) ≤ maxLen, (1 : Nat) = (0 : Nat) ∨ (1 : Nat) = (1 : Nat), (1 : Nat) = (1 : Nat), (3 : Nat) = (3 : Nat)]) (s' := ⟨[(0, 0, Cont.cell (AV.rs 3 n false (actC f))), (0, 2, Cont.cell (AV.bool false)), (0, 3, Cont.cell (AV.ptr 1 0)), (0, 4, Cont.cell (AV.vs 100)), (0, 5, Cont.cell (AV.int IntKind.i64 (IntKind.i64.wrap ((↑(cnt G 64) : Int) + 1)))), (0, 6, Cont.cell (AV.int IntKind.i64 (↑i : Int))), (0, 13, Cont.cell (AV.int IntKind.i64 (tkN F G))), (1, 0, Cont.arr 64 fun i => AV.int IntKind.i64 (tkT F G i)), (1, 64, Cont.arr 64 fun i => AV.bool (tkL F G i)), (1, 128, Cont.top), (100, 0, Cont.vec 1 3 (List.length L + 1) (catF (List.length L) (lst L) (pget [(0, AV.int IntKind.i64 (tkN F G))])))], 116, 134⟩) (by kernel_rfl) (by kernel_rfl) ?_ ?_
            · (simp only [All]; (repeat' apply And.intro) <;> (try intro _) <;> (try intro _) <;> first | trivial | assumption | omega | rfl | exact ⟨_, rfl, rfl⟩ | exact ⟨rfl, rfl⟩ | exact ⟨fun _ => rfl, fun _ => rfl⟩ | (unfold maxLen; omega) | (unfold i64R; first | omega | decide) | decide)
            refine evC_go (dec := []) (ks := [(0, 0), (0, 2), (0, 3), (0, 4), (0, 5), (0, 6), (0, 122), (1, 0), (1, 64), (1, 128), (100, 0)]) (ps := [IsAr (fun i => AV.int IntKind.i64 (tkT F G i)) fun i => AV.bool (tkL F G i), i64R (tkN F G)]) (s' := ⟨[(0, 0, Cont.cell (AV.rs 3 n false (actC f))), (0, 2, Cont.cell (AV.bool false)), (0, 3, Cont.cell (AV.ptr 1 0)), (0, 4, Cont.cell (AV.vs 100)), (0, 5, Cont.cell (AV.int IntKind.i64 (IntKind.i64.wrap ((↑(cnt G 64) : Int) + 1)))), (0, 6, Cont.cell (AV.int IntKind.i64 (↑i : Int))), (0, 122, Cont.cell (AV.bool !isF (tkT F G) (tkL F G) (tkN F G))), (1, 0, Cont.arr 64 fun i => AV.int IntKind.i64 (tkT F G i)), (1, 64, Cont.arr 64 fun i => AV.bool (tkL F G i)), (1, 128, Cont.top), (100, 0, Cont.vec 1 3 (List.length L + 1) (catF (List.length L) (lst L) (pget [(0, AV.int IntKind.i64 (tkN F G))])))], 148, 134⟩) (by kernel_rfl) (by kernel_rfl) ?_ ?_
            · exact ⟨⟨fun _ => rfl, fun _ => rfl⟩, ⟨Int.le_trans (by decide) h9.1, Int.le_trans h9.2 (by decide)⟩⟩
            refine evC_if (q := !isF (tkT F G) (tkL F G) (tkN F G)) (by kernel_rfl) (fun hc => ?_) (fun hc => ?_)
            · exfalso; rw [h8] at hc; cases hc
            clear hc
            refine evC_skip ?_
            refine block_normal ?_
            refine then_normal ?_
            refine evC_goL0 (dec := []) (ks := [(0, 0), (0, 2), (0, 3), (0, 4), (0, 5), (0, 6), (1, 0), (1, 64), (1, 128), (100, 0)]) (s' := ⟨[(0, 0, Cont.cell (AV.rs 3 n false (actC f))), (0, 2, Cont.cell (AV.bool false)), (0, 3, Cont.cell (AV.ptr 1 0)), (0, 4, Cont.cell (AV.vs 100)), (0, 5, Cont.cell (AV.int IntKind.i64 (IntKind.i64.wrap ((↑(cnt G 64) : Int) + 1)))), (0, 6, Cont.cell (AV.int IntKind.i64 (IntKind.i64.wrap ((↑i : Int) + 1)))), (1, 0, Cont.arr 64 fun i => AV.int IntKind.i64 (tkT F G i)), (1, 64, Cont.arr 64 fun i => AV.bool (tkL F G i)), (1, 128, Cont.top), (100, 0, Cont.vec 1 3 (List.length L + 1) (catF (List.length L) (lst L) (pget [(0, AV.int IntKind.i64 (tkN F G))])))], 172, 134⟩) (by kernel_rfl) (by kernel_rfl) ?_
            rw [wrap_add_one hlt.2 (by omega), i64_in ((cnt G 64 : Int) + 1) (by omega)]
            refine round_normal (⟨(tkT F G, tkL F G, L ++ [tkN F G], i + 1), h5, ?_⟩) (wk_go [1, 100] rfl (by decide) rfl rfl ⟨⟨_, rfl, rfl⟩, ⟨_, rfl, rfl⟩, ⟨_, rfl, rfl⟩, ⟨_, rfl, rfl⟩, ⟨_, rfl, ?_⟩, ⟨_, rfl, rfl⟩, ⟨_, rfl, ⟨rfl, fun _ _ => rfl⟩⟩, ⟨_, rfl, ⟨rfl, fun _ _ => rfl⟩⟩, ⟨_, rfl, trivial⟩, ⟨_, rfl, ?_⟩, trivial⟩) ?_
            · show i + 1 ≤ n; omega
            · show AV.int .i64 _ = AV.int .i64 ((cnt (tkL F G) 64 : Nat) : Int)
              rw [h6]; rfl
            · exact ⟨rfl, rfl, by simp, fun j hj => catF_lst rfl j (by simpa using hj)⟩
            · show n - (i + 1) < n - i; omega
    · refine evC_exit ?_
      refine then_exit ?_
      refine round_exit ?_
      refine block_exit ?_
      refine then_normal ?_
      refine evC_go (dec := []) (ks := [(0, 2)]) (ps := [IsAr (fun j => AV.int IntKind.i64 (F j)) fun j => AV.bool (G j), List.all [(↑(List.length (allF F G)) : Int) == (↑(cnt G (64 : Nat)) : Int)] id = true → IsAr (fun j => AV.int IntKind.i64 (F j)) fun j => AV.bool (G j)]) (s' := ⟨[(0, 2, Cont.cell (AV.bool (bif bif (↑(List.length (allF F G)) : Int) == (↑(cnt G 64) : Int) then mayA F G else false then true else false)))], 163, 134⟩) (by kernel_rfl) (by kernel_rfl) ?_ ?_
      · (simp only [All]; (repeat' apply And.intro) <;> (try intro _) <;> (try intro _) <;> first | trivial | assumption | omega | rfl | exact ⟨_, rfl, rfl⟩ | exact ⟨rfl, rfl⟩ | exact ⟨fun _ => rfl, fun _ => rfl⟩ | (unfold maxLen; omega) | (unfold i64R; first | omega | decide) | decide)
      refine evC_ret ?_
      refine post_ret ?_
      refine ends_flat (vs := [AV.bool (bif bif (↑(List.length (allF F G)) : Int) == (↑(cnt G 64) : Int) then mayA F G else false then true else false)]) (Nat.zero_lt_succ _) (by kernel_rfl) (flat_of _ (by kernel_rfl)) rfl ?_
      refine congrArg AV.bool ?_
      have e1 : allF F G = allL F G 64 := by unfold allF; rw [hI.may]; rfl
      rw [e1, allL_cnt, hI.may]
      simp
  · cases e
end Go.Eng.S11
