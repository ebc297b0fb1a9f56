/- Seat 13: the law of the ways, walked. -/
import Derived.Test.YtmlpggggahpoaaaEngX
import Derived.Test.YtmlpggggahpoaaaS13O
import Derived.Test.YtmlpggggahpoaaaS13S
set_option linter.unusedSimpArgs false
set_option linter.unusedVariables false
namespace Go.Eng.S13
open Go.Proofs Go.IntWalk
set_option maxRecDepth 10000

theorem fst_congr {p q : Nat → Bool} : ∀ {n : Nat}, (∀ s, s < n → p s = q s) → fstN p n = fstN q n
  | 0, _ => rfl
  | n + 1, h => by
    have := fst_congr (n := n) fun s hs => h s (by omega)
    simp only [fstN, this, h n (by omega)]
theorem nxR_eq {W H : Int} {g : Nat → Bool} {n t k : Nat} (hm : mayL W H n = true) (ht : t < n) (hg : g t = true) (hk : k < n) (hkt : k ≠ t) (h0 : 0 ≤ costs W H g n t k) :
    nxR W H g (costs W H g n t) k = (nxt W H g (costs W H g n t) k : Int) := by
  obtain ⟨x1, x2, x3, x4, x5⟩ := nxt_ok hm ht hg hk hkt h0
  obtain ⟨m1, m2, m3⟩ := costs_least hm ht hg
  have ho := (m1 k hk h0).opn hm ht hg
  have hgr : ∀ s, goR W H g k s = gs W H g k s := fun s => by rw [goR_gs, ho.2]; rfl
  have he : ∀ s, s < 8 → onR W H g (costs W H g n t) k s = onW W H g (costs W H g n t) k s := by
    intro s hs
    unfold onR onW
    rw [hgr]
    cases e : decide (0 ≤ gs W H g k s) with
    | false => rfl
    | true =>
      have h1 := of_decide_eq_true e
      obtain ⟨q, hq⟩ := Int.eq_ofNat_of_zero_le h1
      have hrg := gs_rng (g := g) (s := s) hm (c := (k : Int)) ⟨by omega, by omega⟩
      have := m2 q _ (by omega) (.step k _ s q (m1 k hk h0) hs hq)
      rw [hq, Int.toNat_natCast, decide_eq_true this.1]
      rfl
  unfold nxR
  rw [fst_congr he, nblt_yes x1, hgr]
  exact x2
def asked (W H : Int) (n : Nat) (g : Nat → Bool) (k t m y : Int) : AV := .agg [.int .i64 W, .int .i64 H, .rs 1 n false (nB g), .int .i64 k, .int .i64 t, .int .i64 m, .int .i64 y]
theorem asked_rs {hr : Rd} {rdl : List (Nat × Nat × Cont)} {K : List Nat} {nb : Nat} {W H k t m y : Int} {n : Nat} {b : Bool} {f : Nat → AV} (h : IsB n f) {vs vs' : List AV} (t' : PassL hr rdl K nb false vs vs') :
    PassL hr rdl K nb false (.agg [.int .i64 W, .int .i64 H, .rs 1 n b f, .int .i64 k, .int .i64 t, .int .i64 m, .int .i64 y] :: vs) (asked W H n (Bf f) k t m y :: vs') := by
  refine .agg _ _ _ _ rfl (fun i x y e1 e2 => ?_) (fun k g hk => ?_) t'
  · match i with
    | 0 => cases e1; cases e2; exact .same _ _ (.int _ _)
    | 1 => cases e1; cases e2; exact .same _ _ (.int _ _)
    | 2 => cases e1; cases e2; exact .rs _ _ _ _ _ _ fun i hi => ⟨h.get i hi, (nB_flat _ i).has⟩
    | 3 => cases e1; cases e2; exact .same _ _ (.int _ _)
    | 4 => cases e1; cases e2; exact .same _ _ (.int _ _)
    | 5 => cases e1; cases e2; exact .same _ _ (.int _ _)
    | 6 => cases e1; cases e2; exact .same _ _ (.int _ _)
    | i + 7 => simp at e1
  · simp only [List.mem_cons, List.not_mem_nil, or_false] at hk
    rcases hk with hk | hk | hk | hk | hk | hk | hk <;> cases hk
def sLawW : Spec := fun args hr nb => match args with
  | [.agg [.int .i64 W, .int .i64 H, .rs 1 n b f, .int .i64 k, .int .i64 t, .int .i64 m, .int .i64 y]] => some ⟨[(f = nB (Bf f)) ∧ n ≤ maxLen], .bool true, [], []⟩
  | _ => none
theorem law_ways_ok : SpecOK Try.prog 4 sLawW := by
  refine spec_own (by kernel_rfl) T_ok (sget_cons few_ok (sget_cons refMay_ok (sget_cons small_ok (sget_cons awake_ok (sget_cons cost_one_ok (sget_cons whole_ok (sget_cons rcosts_ok (sget_cons next_ok sget_nil)))))))) Try.func4 rfl rfl fun args hr nb out e => ?_
  unfold sLawW at e
  split at e
  · rename_i W H n0 b f k t m y
    injection e with e; subst e
    refine ⟨(fun _ h => nomatch h), false, [asked W H n0 (Bf f) k t m y], rfl, fun hs => ?_⟩
    obtain ⟨h1, h2⟩ := hs _ List.mem_cons_self
    have i1 : IsB n0 f := ⟨fun i _ => congrFun h1 i⟩
    refine ⟨asked_rs i1 .nil, ?_⟩
    clear hs h1 i1
    generalize Bf f = g
    unfold asked
    refine evC_go0 (dec := []) (ks := [(0, 1), (0, 2), (1, 0), (1, 1), (1, 2), (1, 3), (1, 4), (1, 5), (1, 6), (1, 7)]) (s' := ⟨[(0, 1, Cont.cell (AV.ptr 1 0)), (0, 2, Cont.cell (AV.bool false)), (1, 0, Cont.cell (AV.int IntKind.i64 W)), (1, 1, Cont.cell (AV.int IntKind.i64 H)), (1, 2, Cont.cell (AV.rs 1 n0 false (nB g))), (1, 3, Cont.cell (AV.int IntKind.i64 k)), (1, 4, Cont.cell (AV.int IntKind.i64 t)), (1, 5, Cont.cell (AV.int IntKind.i64 m)), (1, 6, Cont.cell (AV.int IntKind.i64 y)), (1, 7, Cont.top)], 17, 192⟩) (by kernel_rfl) (by kernel_rfl) ?_
    refine evC_go (dec := []) (ks := [(0, 1), (0, 2), (0, 3), (1, 0), (1, 1), (1, 2), (1, 3), (1, 4), (1, 5), (1, 6), (1, 7), (41, 0), (41, 1), (41, 2), (41, 3)]) (ps := [IsB n0 (nB g), n0 ≤ maxLen]) (s' := ⟨[(0, 1, Cont.cell (AV.ptr 1 0)), (0, 2, Cont.cell (AV.bool false)), (0, 3, Cont.cell (AV.ptr 41 0)), (1, 0, Cont.cell (AV.int IntKind.i64 W)), (1, 1, Cont.cell (AV.int IntKind.i64 H)), (1, 2, Cont.cell (AV.rs 1 n0 false (nB g))), (1, 3, Cont.cell (AV.int IntKind.i64 k)), (1, 4, Cont.cell (AV.int IntKind.i64 t)), (1, 5, Cont.cell (AV.int IntKind.i64 m)), (1, 6, Cont.cell (AV.int IntKind.i64 y)), (1, 7, Cont.top), (41, 0, Cont.cell (AV.int IntKind.i64 W)), (41, 1, Cont.cell (AV.int IntKind.i64 H)), (41, 2, Cont.cell (AV.rs 1 (cut41 n0) false (nB (Bf (nB g))))), (41, 3, Cont.top)], 57, 192⟩) (by kernel_rfl) (by kernel_rfl) ?_ ?_
    · exact ⟨isB n0 g, h2⟩
    rw [Bf_nB]
    have hn := cut41_le n0
    generalize cut41 n0 = n at hn
    have i1 := isB n g
    refine evC_seq ?_
    refine evC_go (dec := []) (ks := [(0, 1), (0, 2), (0, 3), (0, 21), (1, 0), (1, 1), (1, 2), (1, 3), (1, 4), (1, 5), (1, 6), (1, 7), (41, 0), (41, 1), (41, 2), (41, 3)]) (ps := [IsB n (nB g), List.all [mayL W H n] id = true → IsB n (nB g)]) (s' := ⟨[(0, 1, Cont.cell (AV.ptr 1 0)), (0, 2, Cont.cell (AV.bool false)), (0, 3, Cont.cell (AV.ptr 41 0)), (0, 21, Cont.cell (AV.bool (bif mayL W H n then !decide (n ≤ 160) else false))), (1, 0, Cont.cell (AV.int IntKind.i64 W)), (1, 1, Cont.cell (AV.int IntKind.i64 H)), (1, 2, Cont.cell (AV.rs 1 n0 false (nB g))), (1, 3, Cont.cell (AV.int IntKind.i64 k)), (1, 4, Cont.cell (AV.int IntKind.i64 t)), (1, 5, Cont.cell (AV.int IntKind.i64 m)), (1, 6, Cont.cell (AV.int IntKind.i64 y)), (1, 7, Cont.top), (41, 0, Cont.cell (AV.int IntKind.i64 W)), (41, 1, Cont.cell (AV.int IntKind.i64 H)), (41, 2, Cont.cell (AV.rs 1 n false (nB g))), (41, 3, Cont.top)], 113, 192⟩) (by kernel_rfl) (by kernel_rfl) ?_ ?_
    · exact ⟨i1, fun _ => i1⟩
    refine evC_if (q := bif mayL W H n then !decide (n ≤ 160) else false) (by kernel_rfl) (fun hc => ?_) (fun hc => ?_)
    · refine evC_go0 (dec := []) (ks := [(0, 1), (0, 2), (0, 3), (1, 0), (1, 1), (1, 2), (1, 3), (1, 4), (1, 5), (1, 6), (1, 7), (41, 0), (41, 1), (41, 2), (41, 3)]) (s' := ⟨[(0, 1, Cont.cell (AV.ptr 1 0)), (0, 2, Cont.cell (AV.bool true)), (0, 3, Cont.cell (AV.ptr 41 0)), (1, 0, Cont.cell (AV.int IntKind.i64 W)), (1, 1, Cont.cell (AV.int IntKind.i64 H)), (1, 2, Cont.cell (AV.rs 1 n0 false (nB g))), (1, 3, Cont.cell (AV.int IntKind.i64 k)), (1, 4, Cont.cell (AV.int IntKind.i64 t)), (1, 5, Cont.cell (AV.int IntKind.i64 m)), (1, 6, Cont.cell (AV.int IntKind.i64 y)), (1, 7, Cont.top), (41, 0, Cont.cell (AV.int IntKind.i64 W)), (41, 1, Cont.cell (AV.int IntKind.i64 H)), (41, 2, Cont.cell (AV.rs 1 n false (nB g))), (41, 3, Cont.top)], 129, 192⟩) (by kernel_rfl) (by kernel_rfl) ?_
      refine evC_ret ?_
      refine then_ret ?_
      refine post_ret ?_
      refine ends_flat (vs := [AV.bool true]) (Nat.zero_lt_succ _) (by kernel_rfl) (flat_of _ (by kernel_rfl)) rfl ?_
      rfl
    · clear hc
      refine evC_skip ?_
      refine then_normal ?_
      refine evC_go (dec := []) (ks := [(0, 1), (0, 2), (0, 3), (0, 4), (0, 5), (1, 0), (1, 1), (1, 2), (1, 3), (1, 4), (1, 5), (1, 6), (1, 7), (41, 0), (41, 1), (41, 2), (41, 3)]) (ps := [IsB n (nB g)]) (s' := ⟨[(0, 1, Cont.cell (AV.ptr 1 0)), (0, 2, Cont.cell (AV.bool false)), (0, 3, Cont.cell (AV.ptr 41 0)), (0, 4, Cont.cell (AV.int IntKind.i64 (costV W H (Bf (nB g)) n k t))), (0, 5, Cont.cell (AV.int IntKind.i64 (costE W H (Bf (nB g)) n k t))), (1, 0, Cont.cell (AV.int IntKind.i64 W)), (1, 1, Cont.cell (AV.int IntKind.i64 H)), (1, 2, Cont.cell (AV.rs 1 n0 false (nB g))), (1, 3, Cont.cell (AV.int IntKind.i64 k)), (1, 4, Cont.cell (AV.int IntKind.i64 t)), (1, 5, Cont.cell (AV.int IntKind.i64 m)), (1, 6, Cont.cell (AV.int IntKind.i64 y)), (1, 7, Cont.top), (41, 0, Cont.cell (AV.int IntKind.i64 W)), (41, 1, Cont.cell (AV.int IntKind.i64 H)), (41, 2, Cont.cell (AV.rs 1 n false (nB g))), (41, 3, Cont.top)], 201, 192⟩) (by kernel_rfl) (by kernel_rfl) ?_ ?_
      · exact i1
      rw [Bf_nB]
      refine evC_go (dec := []) (ks := [(0, 1), (0, 2), (0, 3), (0, 4), (0, 5), (0, 6), (0, 7), (1, 0), (1, 1), (1, 2), (1, 3), (1, 4), (1, 5), (1, 6), (1, 7), (41, 0), (41, 1), (41, 2), (41, 3), (257, 0)]) (ps := [IsB n (nB g)]) (s' := ⟨[(0, 1, Cont.cell (AV.ptr 1 0)), (0, 2, Cont.cell (AV.bool false)), (0, 3, Cont.cell (AV.ptr 41 0)), (0, 4, Cont.cell (AV.int IntKind.i64 (costV W H g n k t))), (0, 5, Cont.cell (AV.int IntKind.i64 (costE W H g n k t))), (0, 6, Cont.cell (AV.vs 257)), (0, 7, Cont.cell (AV.int IntKind.i64 (errW W H (Bf (nB g)) n k t m))), (1, 0, Cont.cell (AV.int IntKind.i64 W)), (1, 1, Cont.cell (AV.int IntKind.i64 H)), (1, 2, Cont.cell (AV.rs 1 n0 false (nB g))), (1, 3, Cont.cell (AV.int IntKind.i64 k)), (1, 4, Cont.cell (AV.int IntKind.i64 t)), (1, 5, Cont.cell (AV.int IntKind.i64 m)), (1, 6, Cont.cell (AV.int IntKind.i64 y)), (1, 7, Cont.top), (41, 0, Cont.cell (AV.int IntKind.i64 W)), (41, 1, Cont.cell (AV.int IntKind.i64 H)), (41, 2, Cont.cell (AV.rs 1 n false (nB g))), (41, 3, Cont.top), (257, 0, Cont.vec 1 3 (List.length (wayA W H (Bf (nB g)) n k t m)) (nL (wayA W H (Bf (nB g)) n k t m)))], 305, 192⟩) (by kernel_rfl) (by kernel_rfl) ?_ ?_
      · exact i1
      rw [Bf_nB]
      refine evC_seq ?_
      refine evC_go (dec := []) (ks := [(0, 1), (0, 2), (0, 3), (0, 4), (0, 5), (0, 6), (0, 7), (0, 45), (1, 0), (1, 1), (1, 2), (1, 3), (1, 4), (1, 5), (1, 6), (1, 7), (41, 0), (41, 1), (41, 2), (41, 3), (257, 0)]) (ps := [IsB n (nB g)]) (s' := ⟨[(0, 1, Cont.cell (AV.ptr 1 0)), (0, 2, Cont.cell (AV.bool false)), (0, 3, Cont.cell (AV.ptr 41 0)), (0, 4, Cont.cell (AV.int IntKind.i64 (costV W H g n k t))), (0, 5, Cont.cell (AV.int IntKind.i64 (costE W H g n k t))), (0, 6, Cont.cell (AV.vs 257)), (0, 7, Cont.cell (AV.int IntKind.i64 (errW W H g n k t m))), (0, 45, Cont.cell (AV.bool !mayL W H n)), (1, 0, Cont.cell (AV.int IntKind.i64 W)), (1, 1, Cont.cell (AV.int IntKind.i64 H)), (1, 2, Cont.cell (AV.rs 1 n0 false (nB g))), (1, 3, Cont.cell (AV.int IntKind.i64 k)), (1, 4, Cont.cell (AV.int IntKind.i64 t)), (1, 5, Cont.cell (AV.int IntKind.i64 m)), (1, 6, Cont.cell (AV.int IntKind.i64 y)), (1, 7, Cont.top), (41, 0, Cont.cell (AV.int IntKind.i64 W)), (41, 1, Cont.cell (AV.int IntKind.i64 H)), (41, 2, Cont.cell (AV.rs 1 n false (nB g))), (41, 3, Cont.top), (257, 0, Cont.vec 1 3 (List.length (wayA W H g n k t m)) (nL (wayA W H g n k t m)))], 329, 192⟩) (by kernel_rfl) (by kernel_rfl) ?_ ?_
      · exact i1
      refine evC_if (q := !mayL W H n) (by kernel_rfl) (fun hc => ?_) (fun hc => ?_)
      · have hm0 : mayL W H n = false := by simpa using hc
        have e0 := costE_may (g := g) (k := k) (t := t) hm0
        obtain ⟨e1, e2, e3⟩ := costE_bad (m := m) (by rw [e0]; decide)
        rw [e1, e2, e3, e0]
        refine evC_go0 (dec := []) (ks := [(0, 1), (0, 2), (0, 3), (0, 4), (0, 5), (0, 6), (0, 7), (1, 0), (1, 1), (1, 2), (1, 3), (1, 4), (1, 5), (1, 6), (1, 7), (41, 0), (41, 1), (41, 2), (41, 3), (257, 0)]) (s' := ⟨[(0, 1, Cont.cell (AV.ptr 1 0)), (0, 2, Cont.cell (AV.bool true)), (0, 3, Cont.cell (AV.ptr 41 0)), (0, 4, Cont.cell (AV.int IntKind.i64 0)), (0, 5, Cont.cell (AV.int IntKind.i64 1)), (0, 6, Cont.cell (AV.vs 257)), (0, 7, Cont.cell (AV.int IntKind.i64 1)), (1, 0, Cont.cell (AV.int IntKind.i64 W)), (1, 1, Cont.cell (AV.int IntKind.i64 H)), (1, 2, Cont.cell (AV.rs 1 n0 false (nB g))), (1, 3, Cont.cell (AV.int IntKind.i64 k)), (1, 4, Cont.cell (AV.int IntKind.i64 t)), (1, 5, Cont.cell (AV.int IntKind.i64 m)), (1, 6, Cont.cell (AV.int IntKind.i64 y)), (1, 7, Cont.top), (41, 0, Cont.cell (AV.int IntKind.i64 W)), (41, 1, Cont.cell (AV.int IntKind.i64 H)), (41, 2, Cont.cell (AV.rs 1 n false (nB g))), (41, 3, Cont.top), (257, 0, Cont.vec 1 3 0 (nL []))], 481, 192⟩) (by kernel_rfl) (by kernel_rfl) ?_
        refine evC_ret ?_
        refine then_ret ?_
        refine post_ret ?_
        refine ends_flat (vs := [AV.bool true]) (Nat.zero_lt_succ _) (by kernel_rfl) (flat_of _ (by kernel_rfl)) rfl ?_
        rfl
      · have hm0 : mayL W H n = true := by simpa using hc
        clear hc
        refine evC_skip ?_
        refine then_normal ?_
        refine evC_go0 (dec := []) (ks := [(0, 1), (0, 2), (0, 3), (0, 4), (0, 5), (0, 6), (0, 7), (0, 8), (1, 0), (1, 1), (1, 2), (1, 3), (1, 4), (1, 5), (1, 6), (1, 7), (41, 0), (41, 1), (41, 2), (41, 3), (257, 0)]) (s' := ⟨[(0, 1, Cont.cell (AV.ptr 1 0)), (0, 2, Cont.cell (AV.bool false)), (0, 3, Cont.cell (AV.ptr 41 0)), (0, 4, Cont.cell (AV.int IntKind.i64 (costV W H g n k t))), (0, 5, Cont.cell (AV.int IntKind.i64 (costE W H g n k t))), (0, 6, Cont.cell (AV.vs 257)), (0, 7, Cont.cell (AV.int IntKind.i64 (errW W H g n k t m))), (0, 8, Cont.cell (AV.int IntKind.i64 (↑n : Int))), (1, 0, Cont.cell (AV.int IntKind.i64 W)), (1, 1, Cont.cell (AV.int IntKind.i64 H)), (1, 2, Cont.cell (AV.rs 1 n0 false (nB g))), (1, 3, Cont.cell (AV.int IntKind.i64 k)), (1, 4, Cont.cell (AV.int IntKind.i64 t)), (1, 5, Cont.cell (AV.int IntKind.i64 m)), (1, 6, Cont.cell (AV.int IntKind.i64 y)), (1, 7, Cont.top), (41, 0, Cont.cell (AV.int IntKind.i64 W)), (41, 1, Cont.cell (AV.int IntKind.i64 H)), (41, 2, Cont.cell (AV.rs 1 n false (nB g))), (41, 3, Cont.top), (257, 0, Cont.vec 1 3 (List.length (wayA W H g n k t m)) (nL (wayA W H g n k t m)))], 361, 192⟩) (by kernel_rfl) (by kernel_rfl) ?_
        refine evC_seq ?_
        refine evC_go0 (dec := []) (ks := [(0, 1), (0, 2), (0, 3), (0, 4), (0, 5), (0, 6), (0, 7), (0, 86), (1, 0), (1, 1), (1, 2), (1, 3), (1, 4), (1, 5), (1, 6), (1, 7), (41, 0), (41, 1), (41, 2), (41, 3), (257, 0)]) (s' := ⟨[(0, 1, Cont.cell (AV.ptr 1 0)), (0, 2, Cont.cell (AV.bool false)), (0, 3, Cont.cell (AV.ptr 41 0)), (0, 4, Cont.cell (AV.int IntKind.i64 (costV W H g n k t))), (0, 5, Cont.cell (AV.int IntKind.i64 (costE W H g n k t))), (0, 6, Cont.cell (AV.vs 257)), (0, 7, Cont.cell (AV.int IntKind.i64 (errW W H g n k t m))), (0, 86, Cont.cell (AV.bool (bif bif bif decide (k < 0) then true else decide (k ≥ (↑n : Int)) then true else decide (t < 0) then true else decide (t ≥ (↑n : Int))))), (1, 0, Cont.cell (AV.int IntKind.i64 W)), (1, 1, Cont.cell (AV.int IntKind.i64 H)), (1, 2, Cont.cell (AV.rs 1 n0 false (nB g))), (1, 3, Cont.cell (AV.int IntKind.i64 k)), (1, 4, Cont.cell (AV.int IntKind.i64 t)), (1, 5, Cont.cell (AV.int IntKind.i64 m)), (1, 6, Cont.cell (AV.int IntKind.i64 y)), (1, 7, Cont.top), (41, 0, Cont.cell (AV.int IntKind.i64 W)), (41, 1, Cont.cell (AV.int IntKind.i64 H)), (41, 2, Cont.cell (AV.rs 1 n false (nB g))), (41, 3, Cont.top), (257, 0, Cont.vec 1 3 (List.length (wayA W H g n k t m)) (nL (wayA W H g n k t m)))], 521, 192⟩) (by kernel_rfl) (by kernel_rfl) ?_
        have hcond : (bif bif bif decide (k < 0) then true else decide (k ≥ (n : Int)) then true else decide (t < 0) then true else decide (t ≥ (n : Int))) = !(decide ((0 ≤ k ∧ k < (n : Int)) ∧ 0 ≤ t ∧ t < (n : Int))) := by
          rw [cond_or, cond_or, cond_or]
          cases h : decide ((0 ≤ k ∧ k < (n : Int)) ∧ 0 ≤ t ∧ t < (n : Int)) with
          | true => have := of_decide_eq_true h; simp; omega
          | false => have := of_decide_eq_false h; simp; omega
        rw [hcond]
        clear hcond
        refine evC_if (q := !decide ((0 ≤ k ∧ k < (↑n : Int)) ∧ 0 ≤ t ∧ t < (↑n : Int))) (by kernel_rfl) (fun hc => ?_) (fun hc => ?_)
        · have ho : ¬ ((0 ≤ k ∧ k < (n : Int)) ∧ 0 ≤ t ∧ t < (n : Int)) := by
            cases h : decide ((0 ≤ k ∧ k < (n : Int)) ∧ 0 ≤ t ∧ t < (n : Int)) with
            | true => rw [h] at hc; cases hc
            | false => exact of_decide_eq_false h
          have e0 := costE_rng (g := g) hm0 ho
          obtain ⟨e1, e2, e3⟩ := costE_bad (m := m) (by rw [e0]; decide)
          rw [e1, e2, e3, e0]
          refine evC_go0 (dec := []) (ks := [(0, 1), (0, 2), (0, 3), (0, 4), (0, 5), (0, 6), (0, 7), (1, 0), (1, 1), (1, 2), (1, 3), (1, 4), (1, 5), (1, 6), (1, 7), (41, 0), (41, 1), (41, 2), (41, 3), (257, 0)]) (s' := ⟨[(0, 1, Cont.cell (AV.ptr 1 0)), (0, 2, Cont.cell (AV.bool true)), (0, 3, Cont.cell (AV.ptr 41 0)), (0, 4, Cont.cell (AV.int IntKind.i64 0)), (0, 5, Cont.cell (AV.int IntKind.i64 4)), (0, 6, Cont.cell (AV.vs 257)), (0, 7, Cont.cell (AV.int IntKind.i64 4)), (1, 0, Cont.cell (AV.int IntKind.i64 W)), (1, 1, Cont.cell (AV.int IntKind.i64 H)), (1, 2, Cont.cell (AV.rs 1 n0 false (nB g))), (1, 3, Cont.cell (AV.int IntKind.i64 k)), (1, 4, Cont.cell (AV.int IntKind.i64 t)), (1, 5, Cont.cell (AV.int IntKind.i64 m)), (1, 6, Cont.cell (AV.int IntKind.i64 y)), (1, 7, Cont.top), (41, 0, Cont.cell (AV.int IntKind.i64 W)), (41, 1, Cont.cell (AV.int IntKind.i64 H)), (41, 2, Cont.cell (AV.rs 1 n false (nB g))), (41, 3, Cont.top), (257, 0, Cont.vec 1 3 0 (nL []))], 673, 192⟩) (by kernel_rfl) (by kernel_rfl) ?_
          refine evC_ret ?_
          refine then_ret ?_
          refine post_ret ?_
          refine ends_flat (vs := [AV.bool true]) (Nat.zero_lt_succ _) (by kernel_rfl) (flat_of _ (by kernel_rfl)) rfl ?_
          rfl
        · have hi : (0 ≤ k ∧ k < (n : Int)) ∧ 0 ≤ t ∧ t < (n : Int) := by
            cases h : decide ((0 ≤ k ∧ k < (n : Int)) ∧ 0 ≤ t ∧ t < (n : Int)) with
            | true => exact of_decide_eq_true h
            | false => rw [h] at hc; cases hc
          clear hc
          obtain ⟨hk, ht⟩ := hi
          refine evC_skip ?_
          refine then_normal ?_
          refine evC_go (dec := []) (ks := [(0, 1), (0, 2), (0, 3), (0, 4), (0, 5), (0, 6), (0, 7), (0, 9), (1, 0), (1, 1), (1, 2), (1, 3), (1, 4), (1, 5), (1, 6), (1, 7), (41, 0), (41, 1), (41, 2), (41, 3), (257, 0), (545, 0)]) (ps := [IsB n (nB g), mayL W H n = true, (0 : Int) ≤ t ∧ t < (↑n : Int)]) (s' := ⟨[(0, 1, Cont.cell (AV.ptr 1 0)), (0, 2, Cont.cell (AV.bool false)), (0, 3, Cont.cell (AV.ptr 41 0)), (0, 4, Cont.cell (AV.int IntKind.i64 (costV W H g n k t))), (0, 5, Cont.cell (AV.int IntKind.i64 (costE W H g n k t))), (0, 6, Cont.cell (AV.vs 257)), (0, 7, Cont.cell (AV.int IntKind.i64 (errW W H g n k t m))), (0, 9, Cont.cell (AV.vs 545)), (1, 0, Cont.cell (AV.int IntKind.i64 W)), (1, 1, Cont.cell (AV.int IntKind.i64 H)), (1, 2, Cont.cell (AV.rs 1 n0 false (nB g))), (1, 3, Cont.cell (AV.int IntKind.i64 k)), (1, 4, Cont.cell (AV.int IntKind.i64 t)), (1, 5, Cont.cell (AV.int IntKind.i64 m)), (1, 6, Cont.cell (AV.int IntKind.i64 y)), (1, 7, Cont.top), (41, 0, Cont.cell (AV.int IntKind.i64 W)), (41, 1, Cont.cell (AV.int IntKind.i64 H)), (41, 2, Cont.cell (AV.rs 1 n false (nB g))), (41, 3, Cont.top), (257, 0, Cont.vec 1 3 (List.length (wayA W H g n k t m)) (nL (wayA W H g n k t m))), (545, 0, Cont.vec 1 3 n (nI (costs W H (Bf (nB g)) n t)))], 561, 192⟩) (by kernel_rfl) (by kernel_rfl) ?_ ?_
          · exact ⟨i1, hm0, ht⟩
          rw [Bf_nB]
          refine evC_seq ?_
          refine evC_go (dec := []) (ks := [(0, 1), (0, 2), (0, 3), (0, 4), (0, 5), (0, 6), (0, 7), (0, 9), (0, 114), (1, 0), (1, 1), (1, 2), (1, 3), (1, 4), (1, 5), (1, 6), (1, 7), (41, 0), (41, 1), (41, 2), (41, 3), (257, 0), (545, 0)]) (ps := [(0 : Int) ≤ k, k < (↑n : Int), (1 : Nat) = (1 : Nat), (0 : Int) ≤ k, k < (↑n : Int), (1 : Nat) = (1 : Nat)]) (s' := ⟨[(0, 1, Cont.cell (AV.ptr 1 0)), (0, 2, Cont.cell (AV.bool false)), (0, 3, Cont.cell (AV.ptr 41 0)), (0, 4, Cont.cell (AV.int IntKind.i64 (costV W H g n k t))), (0, 5, Cont.cell (AV.int IntKind.i64 (costE W H g n k t))), (0, 6, Cont.cell (AV.vs 257)), (0, 7, Cont.cell (AV.int IntKind.i64 (errW W H g n k t m))), (0, 9, Cont.cell (AV.vs 545)), (0, 114, Cont.cell (AV.bool (decide (costs W H g n t (Int.toNat k) < 0)))), (1, 0, Cont.cell (AV.int IntKind.i64 W)), (1, 1, Cont.cell (AV.int IntKind.i64 H)), (1, 2, Cont.cell (AV.rs 1 n0 false (nB g))), (1, 3, Cont.cell (AV.int IntKind.i64 k)), (1, 4, Cont.cell (AV.int IntKind.i64 t)), (1, 5, Cont.cell (AV.int IntKind.i64 m)), (1, 6, Cont.cell (AV.int IntKind.i64 y)), (1, 7, Cont.top), (41, 0, Cont.cell (AV.int IntKind.i64 W)), (41, 1, Cont.cell (AV.int IntKind.i64 H)), (41, 2, Cont.cell (AV.rs 1 n false (nB g))), (41, 3, Cont.top), (257, 0, Cont.vec 1 3 (List.length (wayA W H g n k t m)) (nL (wayA W H g n k t m))), (545, 0, Cont.vec 1 3 n (nI (costs W H g n t)))], 609, 192⟩) (by kernel_rfl) (by kernel_rfl) ?_ ?_
          · (simp only [All]; (repeat' apply And.intro) <;> (try intro _) <;> (try intro _) <;> (repeat' apply And.intro) <;> (try intro _) <;> (try intro _) <;> first | trivial | assumption | exact .inr trivial | exact .inr rfl | omega | rfl | exact ⟨_, rfl, rfl⟩ | exact ⟨rfl, rfl⟩ | exact ⟨fun _ => rfl, fun _ => rfl⟩ | (unfold maxLen; omega) | (unfold i64R; first | omega | decide) | decide)
          refine evC_if (q := decide (costs W H g n t (Int.toNat k) < 0)) (by kernel_rfl) (fun hc => ?_) (fun hc => ?_)
          · have e0 := costE_none hm0 hk ht (of_decide_eq_true hc)
            obtain ⟨e1, e2, e3⟩ := costE_bad (m := m) (by rw [e0]; decide)
            rw [e1, e2, e3, e0]
            refine evC_go0 (dec := []) (ks := [(0, 1), (0, 2), (0, 3), (0, 4), (0, 5), (0, 6), (0, 7), (0, 9), (1, 0), (1, 1), (1, 2), (1, 3), (1, 4), (1, 5), (1, 6), (1, 7), (41, 0), (41, 1), (41, 2), (41, 3), (257, 0), (545, 0)]) (s' := ⟨[(0, 1, Cont.cell (AV.ptr 1 0)), (0, 2, Cont.cell (AV.bool true)), (0, 3, Cont.cell (AV.ptr 41 0)), (0, 4, Cont.cell (AV.int IntKind.i64 0)), (0, 5, Cont.cell (AV.int IntKind.i64 6)), (0, 6, Cont.cell (AV.vs 257)), (0, 7, Cont.cell (AV.int IntKind.i64 6)), (0, 9, Cont.cell (AV.vs 545)), (1, 0, Cont.cell (AV.int IntKind.i64 W)), (1, 1, Cont.cell (AV.int IntKind.i64 H)), (1, 2, Cont.cell (AV.rs 1 n0 false (nB g))), (1, 3, Cont.cell (AV.int IntKind.i64 k)), (1, 4, Cont.cell (AV.int IntKind.i64 t)), (1, 5, Cont.cell (AV.int IntKind.i64 m)), (1, 6, Cont.cell (AV.int IntKind.i64 y)), (1, 7, Cont.top), (41, 0, Cont.cell (AV.int IntKind.i64 W)), (41, 1, Cont.cell (AV.int IntKind.i64 H)), (41, 2, Cont.cell (AV.rs 1 n false (nB g))), (41, 3, Cont.top), (257, 0, Cont.vec 1 3 0 (nL [])), (545, 0, Cont.vec 1 3 n (nI (costs W H g n t)))], 761, 192⟩) (by kernel_rfl) (by kernel_rfl) ?_
            refine evC_ret ?_
            refine then_ret ?_
            refine post_ret ?_
            refine ends_flat (vs := [AV.bool true]) (Nat.zero_lt_succ _) (by kernel_rfl) (flat_of _ (by kernel_rfl)) rfl ?_
            rfl
          · have hc0 : 0 ≤ costs W H g n t k.toNat := by have := of_decide_eq_false hc; omega
            clear hc
            obtain ⟨e0, e1⟩ := costE_ok hm0 hk ht hc0
            refine evC_skip ?_
            refine then_normal ?_
            refine evC_seq ?_
            refine evC_go (dec := []) (ks := [(0, 1), (0, 2), (0, 3), (0, 4), (0, 6), (0, 7), (0, 9), (0, 143), (1, 0), (1, 1), (1, 2), (1, 3), (1, 4), (1, 5), (1, 6), (1, 7), (41, 0), (41, 1), (41, 2), (41, 3), (257, 0), (545, 0)]) (ps := [(0 : Int) ≤ k, k < (↑n : Int), (1 : Nat) = (1 : Nat), (0 : Int) ≤ k, k < (↑n : Int), (1 : Nat) = (1 : Nat)]) (s' := ⟨[(0, 1, Cont.cell (AV.ptr 1 0)), (0, 2, Cont.cell (AV.bool false)), (0, 3, Cont.cell (AV.ptr 41 0)), (0, 4, Cont.cell (AV.int IntKind.i64 (costV W H g n k t))), (0, 6, Cont.cell (AV.vs 257)), (0, 7, Cont.cell (AV.int IntKind.i64 (errW W H g n k t m))), (0, 9, Cont.cell (AV.vs 545)), (0, 143, Cont.cell (AV.bool (bif costV W H g n k t != costs W H g n t (Int.toNat k) then true else costE W H g n k t != 0))), (1, 0, Cont.cell (AV.int IntKind.i64 W)), (1, 1, Cont.cell (AV.int IntKind.i64 H)), (1, 2, Cont.cell (AV.rs 1 n0 false (nB g))), (1, 3, Cont.cell (AV.int IntKind.i64 k)), (1, 4, Cont.cell (AV.int IntKind.i64 t)), (1, 5, Cont.cell (AV.int IntKind.i64 m)), (1, 6, Cont.cell (AV.int IntKind.i64 y)), (1, 7, Cont.top), (41, 0, Cont.cell (AV.int IntKind.i64 W)), (41, 1, Cont.cell (AV.int IntKind.i64 H)), (41, 2, Cont.cell (AV.rs 1 n false (nB g))), (41, 3, Cont.top), (257, 0, Cont.vec 1 3 (List.length (wayA W H g n k t m)) (nL (wayA W H g n k t m))), (545, 0, Cont.vec 1 3 n (nI (costs W H g n t)))], 697, 192⟩) (by kernel_rfl) (by kernel_rfl) ?_ ?_
            · (simp only [All]; (repeat' apply And.intro) <;> (try intro _) <;> (try intro _) <;> (repeat' apply And.intro) <;> (try intro _) <;> (try intro _) <;> first | trivial | assumption | exact .inr trivial | exact .inr rfl | omega | rfl | exact ⟨_, rfl, rfl⟩ | exact ⟨rfl, rfl⟩ | exact ⟨fun _ => rfl, fun _ => rfl⟩ | (unfold maxLen; omega) | (unfold i64R; first | omega | decide) | decide)
            rw [e0, e1]
            refine evC_if (q := bif costs W H g n t (Int.toNat k) != costs W H g n t (Int.toNat k) then true else 0 != 0) (by kernel_rfl) (fun hc => ?_) (fun hc => ?_)
            · exfalso
              simp at hc
            clear hc
            refine evC_skip ?_
            refine then_normal ?_
            refine evC_seq ?_
            refine evC_go0 (dec := []) (ks := [(0, 1), (0, 2), (0, 3), (0, 6), (0, 7), (0, 9), (0, 147), (1, 0), (1, 1), (1, 2), (1, 3), (1, 4), (1, 5), (1, 6), (1, 7), (41, 0), (41, 1), (41, 2), (41, 3), (257, 0), (545, 0)]) (s' := ⟨[(0, 1, Cont.cell (AV.ptr 1 0)), (0, 2, Cont.cell (AV.bool false)), (0, 3, Cont.cell (AV.ptr 41 0)), (0, 6, Cont.cell (AV.vs 257)), (0, 7, Cont.cell (AV.int IntKind.i64 (errW W H g n k t m))), (0, 9, Cont.cell (AV.vs 545)), (0, 147, Cont.cell (AV.bool (decide (costs W H g n t (Int.toNat k) > m)))), (1, 0, Cont.cell (AV.int IntKind.i64 W)), (1, 1, Cont.cell (AV.int IntKind.i64 H)), (1, 2, Cont.cell (AV.rs 1 n0 false (nB g))), (1, 3, Cont.cell (AV.int IntKind.i64 k)), (1, 4, Cont.cell (AV.int IntKind.i64 t)), (1, 5, Cont.cell (AV.int IntKind.i64 m)), (1, 6, Cont.cell (AV.int IntKind.i64 y)), (1, 7, Cont.top), (41, 0, Cont.cell (AV.int IntKind.i64 W)), (41, 1, Cont.cell (AV.int IntKind.i64 H)), (41, 2, Cont.cell (AV.rs 1 n false (nB g))), (41, 3, Cont.top), (257, 0, Cont.vec 1 3 (List.length (wayA W H g n k t m)) (nL (wayA W H g n k t m))), (545, 0, Cont.vec 1 3 n (nI (costs W H g n t)))], 729, 192⟩) (by kernel_rfl) (by kernel_rfl) ?_
            refine evC_if (q := decide (costs W H g n t (Int.toNat k) > m)) (by kernel_rfl) (fun hc => ?_) (fun hc => ?_)
            · obtain ⟨f1, f2⟩ := way_far (m := m) e0 (by rw [e1]; exact of_decide_eq_true hc)
              rw [f1, f2]
              refine evC_go0 (dec := []) (ks := [(0, 1), (0, 2), (0, 3), (0, 6), (0, 7), (0, 9), (1, 0), (1, 1), (1, 2), (1, 3), (1, 4), (1, 5), (1, 6), (1, 7), (41, 0), (41, 1), (41, 2), (41, 3), (257, 0), (545, 0)]) (s' := ⟨[(0, 1, Cont.cell (AV.ptr 1 0)), (0, 2, Cont.cell (AV.bool true)), (0, 3, Cont.cell (AV.ptr 41 0)), (0, 6, Cont.cell (AV.vs 257)), (0, 7, Cont.cell (AV.int IntKind.i64 10)), (0, 9, Cont.cell (AV.vs 545)), (1, 0, Cont.cell (AV.int IntKind.i64 W)), (1, 1, Cont.cell (AV.int IntKind.i64 H)), (1, 2, Cont.cell (AV.rs 1 n0 false (nB g))), (1, 3, Cont.cell (AV.int IntKind.i64 k)), (1, 4, Cont.cell (AV.int IntKind.i64 t)), (1, 5, Cont.cell (AV.int IntKind.i64 m)), (1, 6, Cont.cell (AV.int IntKind.i64 y)), (1, 7, Cont.top), (41, 0, Cont.cell (AV.int IntKind.i64 W)), (41, 1, Cont.cell (AV.int IntKind.i64 H)), (41, 2, Cont.cell (AV.rs 1 n false (nB g))), (41, 3, Cont.top), (257, 0, Cont.vec 1 3 0 (nL [])), (545, 0, Cont.vec 1 3 n (nI (costs W H g n t)))], 817, 192⟩) (by kernel_rfl) (by kernel_rfl) ?_
              refine evC_ret ?_
              refine then_ret ?_
              refine post_ret ?_
              refine ends_flat (vs := [AV.bool true]) (Nat.zero_lt_succ _) (by kernel_rfl) (flat_of _ (by kernel_rfl)) rfl ?_
              rfl
            · obtain ⟨f1, f2⟩ := way_fine (m := m) e0 (by rw [e1]; exact of_decide_eq_false hc)
              rw [f1, f2]
              clear hc e0 e1 f1 f2
              obtain ⟨k, rfl⟩ := Int.eq_ofNat_of_zero_le hk.1
              obtain ⟨t, rfl⟩ := Int.eq_ofNat_of_zero_le ht.1
              rw [Int.toNat_natCast] at hc0
              unfold wayL
              rw [Int.toNat_natCast, Int.toNat_natCast]
              have hg := costs_open hc0
              have hb : ∀ q, q < n → -1 ≤ costs W H g n t q ∧ costs W H g n t q ≤ 100000 := fun q hq => costs_bd hm0 ht q hq
              generalize hC : costs W H g n t = C at hc0 hb ⊢
              generalize hL : wayR W H g C t ((C k).toNat + 1) k [(k : Int)] = L
              refine evC_skip ?_
              refine then_normal ?_
              refine evC_go0 (dec := []) (ks := [(0, 1), (0, 2), (0, 3), (0, 6), (0, 7), (0, 9), (0, 10), (1, 0), (1, 1), (1, 2), (1, 3), (1, 4), (1, 5), (1, 6), (1, 7), (41, 0), (41, 1), (41, 2), (41, 3), (257, 0), (545, 0)]) (s' := ⟨[(0, 1, Cont.cell (AV.ptr 1 0)), (0, 2, Cont.cell (AV.bool false)), (0, 3, Cont.cell (AV.ptr 41 0)), (0, 6, Cont.cell (AV.vs 257)), (0, 7, Cont.cell (AV.int IntKind.i64 0)), (0, 9, Cont.cell (AV.vs 545)), (0, 10, Cont.cell (AV.int IntKind.i64 (↑k : Int))), (1, 0, Cont.cell (AV.int IntKind.i64 W)), (1, 1, Cont.cell (AV.int IntKind.i64 H)), (1, 2, Cont.cell (AV.rs 1 n0 false (nB g))), (1, 3, Cont.cell (AV.int IntKind.i64 (↑k : Int))), (1, 4, Cont.cell (AV.int IntKind.i64 (↑t : Int))), (1, 5, Cont.cell (AV.int IntKind.i64 m)), (1, 6, Cont.cell (AV.int IntKind.i64 y)), (1, 7, Cont.top), (41, 0, Cont.cell (AV.int IntKind.i64 W)), (41, 1, Cont.cell (AV.int IntKind.i64 H)), (41, 2, Cont.cell (AV.rs 1 n false (nB g))), (41, 3, Cont.top), (257, 0, Cont.vec 1 3 (List.length L) (nL L)), (545, 0, Cont.vec 1 3 n (nI C))], 753, 192⟩) (by kernel_rfl) (by kernel_rfl) ?_
              refine evC_seq ?_
              refine evC_go0 (dec := []) (ks := [(0, 1), (0, 2), (0, 3), (0, 6), (0, 7), (0, 9), (0, 10), (0, 11), (1, 0), (1, 1), (1, 2), (1, 3), (1, 4), (1, 5), (1, 6), (1, 7), (41, 0), (41, 1), (41, 2), (41, 3), (257, 0), (545, 0)]) (s' := ⟨[(0, 1, Cont.cell (AV.ptr 1 0)), (0, 2, Cont.cell (AV.bool false)), (0, 3, Cont.cell (AV.ptr 41 0)), (0, 6, Cont.cell (AV.vs 257)), (0, 7, Cont.cell (AV.int IntKind.i64 0)), (0, 9, Cont.cell (AV.vs 545)), (0, 10, Cont.cell (AV.int IntKind.i64 (↑k : Int))), (0, 11, Cont.cell (AV.int IntKind.i64 0)), (1, 0, Cont.cell (AV.int IntKind.i64 W)), (1, 1, Cont.cell (AV.int IntKind.i64 H)), (1, 2, Cont.cell (AV.rs 1 n0 false (nB g))), (1, 3, Cont.cell (AV.int IntKind.i64 (↑k : Int))), (1, 4, Cont.cell (AV.int IntKind.i64 (↑t : Int))), (1, 5, Cont.cell (AV.int IntKind.i64 m)), (1, 6, Cont.cell (AV.int IntKind.i64 y)), (1, 7, Cont.top), (41, 0, Cont.cell (AV.int IntKind.i64 W)), (41, 1, Cont.cell (AV.int IntKind.i64 H)), (41, 2, Cont.cell (AV.rs 1 n false (nB g))), (41, 3, Cont.top), (257, 0, Cont.vec 1 3 (List.length L) (nL L)), (545, 0, Cont.vec 1 3 n (nI C))], 761, 192⟩) (by kernel_rfl) (by kernel_rfl) ?_
              refine evC_block ?_
              refine evC_loop (ι := { s : Nat × List Int × Nat // s.1 < n ∧ 0 ≤ C s.1 ∧ C s.1 < s.2.2 ∧ 0 < s.2.1.length ∧ s.2.1.getD (s.2.1.length - 1) 0 = (s.1 : Int) ∧ s.2.1.length + C s.1 ≤ 200000 ∧ wayR W H g C t s.2.2 s.1 s.2.1 = L }) (fun s => ⟨[(0, 1, Cont.cell (AV.ptr 1 0)), (0, 2, Cont.cell (AV.bool false)), (0, 3, Cont.cell (AV.ptr 2 0)), (0, 6, Cont.cell (AV.vs 3)), (0, 7, Cont.cell (AV.int IntKind.i64 0)), (0, 9, Cont.cell (AV.vs 4)), (0, 10, .cell (.int .i64 (s.1.1 : Nat))), (0, 11, .cell (.int .i64 ((s.1.2.1.length - 1 : Nat) : Nat))), (1, 0, Cont.cell (AV.int IntKind.i64 W)), (1, 1, Cont.cell (AV.int IntKind.i64 H)), (1, 2, Cont.cell (AV.rs 1 n0 false (nB g))), (1, 3, Cont.cell (AV.int IntKind.i64 (↑k : Int))), (1, 4, Cont.cell (AV.int IntKind.i64 (↑t : Int))), (1, 5, Cont.cell (AV.int IntKind.i64 m)), (1, 6, Cont.cell (AV.int IntKind.i64 y)), (1, 7, Cont.top), (2, 0, Cont.cell (AV.int IntKind.i64 W)), (2, 1, Cont.cell (AV.int IntKind.i64 H)), (2, 2, Cont.cell (AV.rs 1 n false (nB g))), (2, 3, Cont.top), (3, 0, Cont.vec 1 3 (List.length L) (nL L)), (4, 0, Cont.vec 1 3 n (nI C))], 5, 192⟩) (fun s => s.1.2.2) ⟨(k, [(k : Int)], (C k).toNat + 1), by show k < n; omega, hc0, by show C k < ((C k).toNat + 1 : Nat); omega, Nat.one_pos, rfl, by show (1 : Int) + C k ≤ 200000; have := hb k (by omega); omega, hL⟩ (wk_go [1, 41, 257, 545] rfl (by decide) rfl rfl ⟨⟨_, rfl, rfl⟩, ⟨_, rfl, rfl⟩, ⟨_, rfl, rfl⟩, ⟨_, rfl, rfl⟩, ⟨_, rfl, rfl⟩, ⟨_, rfl, rfl⟩, ⟨_, rfl, rfl⟩, ⟨_, rfl, rfl⟩, ⟨_, rfl, rfl⟩, ⟨_, rfl, rfl⟩, ⟨_, rfl, rfl⟩, ⟨_, rfl, rfl⟩, ⟨_, rfl, rfl⟩, ⟨_, rfl, rfl⟩, ⟨_, rfl, rfl⟩, ⟨_, rfl, trivial⟩, ⟨_, rfl, rfl⟩, ⟨_, rfl, rfl⟩, ⟨_, rfl, rfl⟩, ⟨_, rfl, trivial⟩, ⟨_, rfl, rfl, rfl, rfl, fun _ _ => rfl⟩, ⟨_, rfl, rfl, rfl, rfl, fun _ _ => rfl⟩, trivial⟩) ?_
              rintro ⟨⟨c, acc, fu⟩, h1, h2, h3, h4, h5, h6, h7⟩
              simp only at h1 h2 h3 h4 h5 h6 h7
              have hget := wayR_get h7 (j := acc.length - 1) (by omega)
              rw [h5] at hget
              have hcC := hb c h1
              refine evC_seq ?_
              refine evC_go0 (dec := []) (ks := [(0, 1), (0, 2), (0, 3), (0, 6), (0, 7), (0, 9), (0, 10), (0, 11), (0, 163), (1, 0), (1, 1), (1, 2), (1, 3), (1, 4), (1, 5), (1, 6), (1, 7), (2, 0), (2, 1), (2, 2), (2, 3), (3, 0), (4, 0)]) (s' := ⟨[(0, 1, Cont.cell (AV.ptr 1 0)), (0, 2, Cont.cell (AV.bool false)), (0, 3, Cont.cell (AV.ptr 2 0)), (0, 6, Cont.cell (AV.vs 3)), (0, 7, Cont.cell (AV.int IntKind.i64 0)), (0, 9, Cont.cell (AV.vs 4)), (0, 10, Cont.cell (AV.int IntKind.i64 (↑c : Int))), (0, 11, Cont.cell (AV.int IntKind.i64 (↑(List.length acc - 1) : Int))), (0, 163, Cont.cell (AV.bool (decide ((↑(List.length acc - 1) : Int) < (↑(List.length L) : Int))))), (1, 0, Cont.cell (AV.int IntKind.i64 W)), (1, 1, Cont.cell (AV.int IntKind.i64 H)), (1, 2, Cont.cell (AV.rs 1 n0 false (nB g))), (1, 3, Cont.cell (AV.int IntKind.i64 (↑k : Int))), (1, 4, Cont.cell (AV.int IntKind.i64 (↑t : Int))), (1, 5, Cont.cell (AV.int IntKind.i64 m)), (1, 6, Cont.cell (AV.int IntKind.i64 y)), (1, 7, Cont.top), (2, 0, Cont.cell (AV.int IntKind.i64 W)), (2, 1, Cont.cell (AV.int IntKind.i64 H)), (2, 2, Cont.cell (AV.rs 1 n false (nB g))), (2, 3, Cont.top), (3, 0, Cont.vec 1 3 (List.length L) (nL L)), (4, 0, Cont.vec 1 3 n (nI C))], 37, 192⟩) (by kernel_rfl) (by kernel_rfl) ?_
              refine evC_if (q := decide ((↑(List.length acc - 1) : Int) < (↑(List.length L) : Int))) (by kernel_rfl) (fun hc => ?_) (fun hc => ?_)
              · clear hc
                refine evC_skip ?_
                refine then_normal ?_
                refine evC_seq ?_
                refine evC_block ?_
                refine evC_seq ?_
                refine evC_go (dec := []) (ks := [(0, 1), (0, 2), (0, 3), (0, 6), (0, 7), (0, 9), (0, 10), (0, 11), (0, 171), (1, 0), (1, 1), (1, 2), (1, 3), (1, 4), (1, 5), (1, 6), (1, 7), (2, 0), (2, 1), (2, 2), (2, 3), (3, 0), (4, 0)]) (ps := [(0 : Int) ≤ (↑(List.length acc - (1 : Nat)) : Int), (↑(List.length acc - (1 : Nat)) : Int) < (↑(List.length L) : Int), (1 : Nat) = (1 : Nat), (0 : Int) ≤ (↑(List.length acc - (1 : Nat)) : Int), (↑(List.length acc - (1 : Nat)) : Int) < (↑(List.length L) : Int), (1 : Nat) = (1 : Nat)]) (s' := ⟨[(0, 1, Cont.cell (AV.ptr 1 0)), (0, 2, Cont.cell (AV.bool false)), (0, 3, Cont.cell (AV.ptr 2 0)), (0, 6, Cont.cell (AV.vs 3)), (0, 7, Cont.cell (AV.int IntKind.i64 0)), (0, 9, Cont.cell (AV.vs 4)), (0, 10, Cont.cell (AV.int IntKind.i64 (↑c : Int))), (0, 11, Cont.cell (AV.int IntKind.i64 (↑(List.length acc - 1) : Int))), (0, 171, Cont.cell (AV.bool (List.getD L (List.length acc - 1) 0 != (↑c : Int)))), (1, 0, Cont.cell (AV.int IntKind.i64 W)), (1, 1, Cont.cell (AV.int IntKind.i64 H)), (1, 2, Cont.cell (AV.rs 1 n0 false (nB g))), (1, 3, Cont.cell (AV.int IntKind.i64 (↑k : Int))), (1, 4, Cont.cell (AV.int IntKind.i64 (↑t : Int))), (1, 5, Cont.cell (AV.int IntKind.i64 m)), (1, 6, Cont.cell (AV.int IntKind.i64 y)), (1, 7, Cont.top), (2, 0, Cont.cell (AV.int IntKind.i64 W)), (2, 1, Cont.cell (AV.int IntKind.i64 H)), (2, 2, Cont.cell (AV.rs 1 n false (nB g))), (2, 3, Cont.top), (3, 0, Cont.vec 1 3 (List.length L) (nL L)), (4, 0, Cont.vec 1 3 n (nI C))], 85, 192⟩) (by kernel_rfl) (by kernel_rfl) ?_ ?_
                · (simp only [All]; (repeat' apply And.intro) <;> (try intro _) <;> (try intro _) <;> (repeat' apply And.intro) <;> (try intro _) <;> (try intro _) <;> first | trivial | assumption | exact .inr trivial | exact .inr rfl | omega | rfl | exact ⟨_, rfl, rfl⟩ | exact ⟨rfl, rfl⟩ | exact ⟨fun _ => rfl, fun _ => rfl⟩ | (unfold maxLen; omega) | (unfold i64R; first | omega | decide) | decide)
                rw [hget.2]
                refine evC_if (q := (↑c : Int) != (↑c : Int)) (by kernel_rfl) (fun hc => ?_) (fun hc => ?_)
                · exfalso
                  simp at hc
                clear hc
                refine evC_skip ?_
                refine then_normal ?_
                refine evC_seq ?_
                refine evC_go0 (dec := []) (ks := [(0, 1), (0, 2), (0, 3), (0, 6), (0, 7), (0, 9), (0, 10), (0, 11), (0, 175), (1, 0), (1, 1), (1, 2), (1, 3), (1, 4), (1, 5), (1, 6), (1, 7), (2, 0), (2, 1), (2, 2), (2, 3), (3, 0), (4, 0)]) (s' := ⟨[(0, 1, Cont.cell (AV.ptr 1 0)), (0, 2, Cont.cell (AV.bool false)), (0, 3, Cont.cell (AV.ptr 2 0)), (0, 6, Cont.cell (AV.vs 3)), (0, 7, Cont.cell (AV.int IntKind.i64 0)), (0, 9, Cont.cell (AV.vs 4)), (0, 10, Cont.cell (AV.int IntKind.i64 (↑c : Int))), (0, 11, Cont.cell (AV.int IntKind.i64 (↑(List.length acc - 1) : Int))), (0, 175, Cont.cell (AV.bool ((↑c : Int) == (↑t : Int)))), (1, 0, Cont.cell (AV.int IntKind.i64 W)), (1, 1, Cont.cell (AV.int IntKind.i64 H)), (1, 2, Cont.cell (AV.rs 1 n0 false (nB g))), (1, 3, Cont.cell (AV.int IntKind.i64 (↑k : Int))), (1, 4, Cont.cell (AV.int IntKind.i64 (↑t : Int))), (1, 5, Cont.cell (AV.int IntKind.i64 m)), (1, 6, Cont.cell (AV.int IntKind.i64 y)), (1, 7, Cont.top), (2, 0, Cont.cell (AV.int IntKind.i64 W)), (2, 1, Cont.cell (AV.int IntKind.i64 H)), (2, 2, Cont.cell (AV.rs 1 n false (nB g))), (2, 3, Cont.top), (3, 0, Cont.vec 1 3 (List.length L) (nL L)), (4, 0, Cont.vec 1 3 n (nI C))], 117, 192⟩) (by kernel_rfl) (by kernel_rfl) ?_
                refine evC_if (q := (↑c : Int) == (↑t : Int)) (by kernel_rfl) (fun hc => ?_) (fun hc => ?_)
                · have hct : c = t := by
                    have : (c : Int) = (t : Int) := by simpa using hc
                    omega
                  clear hc
                  subst hct
                  obtain ⟨fu, rfl⟩ : ∃ f', fu = f' + 1 := ⟨fu - 1, by omega⟩
                  rw [wayR_end] at h7
                  subst h7
                  refine evC_go0 (dec := []) (ks := [(0, 1), (0, 2), (0, 3), (0, 6), (0, 7), (0, 9), (0, 10), (0, 11), (1, 0), (1, 1), (1, 2), (1, 3), (1, 4), (1, 5), (1, 6), (1, 7), (2, 0), (2, 1), (2, 2), (2, 3), (3, 0), (4, 0)]) (s' := ⟨[(0, 1, Cont.cell (AV.ptr 1 0)), (0, 2, Cont.cell (AV.bool (bif bif (↑(List.length acc - 1) : Int) == IntKind.i64.wrap ((↑(List.length acc) : Int) - 1) then 0 == 0 else false then true else false))), (0, 3, Cont.cell (AV.ptr 2 0)), (0, 6, Cont.cell (AV.vs 3)), (0, 7, Cont.cell (AV.int IntKind.i64 0)), (0, 9, Cont.cell (AV.vs 4)), (0, 10, Cont.cell (AV.int IntKind.i64 (↑c : Int))), (0, 11, Cont.cell (AV.int IntKind.i64 (↑(List.length acc - 1) : Int))), (1, 0, Cont.cell (AV.int IntKind.i64 W)), (1, 1, Cont.cell (AV.int IntKind.i64 H)), (1, 2, Cont.cell (AV.rs 1 n0 false (nB g))), (1, 3, Cont.cell (AV.int IntKind.i64 (↑k : Int))), (1, 4, Cont.cell (AV.int IntKind.i64 (↑c : Int))), (1, 5, Cont.cell (AV.int IntKind.i64 m)), (1, 6, Cont.cell (AV.int IntKind.i64 y)), (1, 7, Cont.top), (2, 0, Cont.cell (AV.int IntKind.i64 W)), (2, 1, Cont.cell (AV.int IntKind.i64 H)), (2, 2, Cont.cell (AV.rs 1 n false (nB g))), (2, 3, Cont.top), (3, 0, Cont.vec 1 3 (List.length acc) (nL acc)), (4, 0, Cont.vec 1 3 n (nI C))], 221, 192⟩) (by kernel_rfl) (by kernel_rfl) ?_
                  refine evC_ret ?_
                  refine then_ret ?_
                  refine block_ret ?_
                  refine then_ret ?_
                  refine round_ret ?_
                  refine block_ret ?_
                  refine then_ret ?_
                  refine post_ret ?_
                  refine ends_flat (vs := [AV.bool (bif bif (↑(List.length acc - 1) : Int) == IntKind.i64.wrap ((↑(List.length acc) : Int) - 1) then 0 == 0 else false then true else false)]) (Nat.zero_lt_succ _) (by kernel_rfl) (flat_of _ (by kernel_rfl)) rfl ?_
                  rw [i64_in _ (by omega)]
                  have : ((acc.length - 1 : Nat) : Int) = (acc.length : Int) - 1 := by omega
                  simp [this, oneAV]
                · have hct : c ≠ t := by
                    intro e
                    rw [e] at hc
                    simp at hc
                  clear hc
                  refine evC_skip ?_
                  refine then_normal ?_
                  refine evC_goL (dec := []) (ks := [(0, 1), (0, 2), (0, 3), (0, 6), (0, 7), (0, 9), (0, 10), (0, 11), (1, 0), (1, 1), (1, 2), (1, 3), (1, 4), (1, 5), (1, 6), (1, 7), (2, 0), (2, 1), (2, 2), (2, 3), (3, 0), (4, 0)]) (ps := [IsB n (nB g), IsI n (nI C), mayL W H n = true, n = n, (0 : Int) ≤ (↑c : Int) ∧ (↑c : Int) < (↑n : Int), ∀ (q : Nat), q < n → (-1 : Int) ≤ If (nI C) q ∧ If (nI C) q ≤ (100000 : Int)]) (s' := ⟨[(0, 1, Cont.cell (AV.ptr 1 0)), (0, 2, Cont.cell (AV.bool false)), (0, 3, Cont.cell (AV.ptr 2 0)), (0, 6, Cont.cell (AV.vs 3)), (0, 7, Cont.cell (AV.int IntKind.i64 0)), (0, 9, Cont.cell (AV.vs 4)), (0, 10, Cont.cell (AV.int IntKind.i64 (nxR W H (Bf (nB g)) (If (nI C)) c))), (0, 11, Cont.cell (AV.int IntKind.i64 (↑(List.length acc - 1) : Int))), (1, 0, Cont.cell (AV.int IntKind.i64 W)), (1, 1, Cont.cell (AV.int IntKind.i64 H)), (1, 2, Cont.cell (AV.rs 1 n0 false (nB g))), (1, 3, Cont.cell (AV.int IntKind.i64 (↑k : Int))), (1, 4, Cont.cell (AV.int IntKind.i64 (↑t : Int))), (1, 5, Cont.cell (AV.int IntKind.i64 m)), (1, 6, Cont.cell (AV.int IntKind.i64 y)), (1, 7, Cont.top), (2, 0, Cont.cell (AV.int IntKind.i64 W)), (2, 1, Cont.cell (AV.int IntKind.i64 H)), (2, 2, Cont.cell (AV.rs 1 n false (nB g))), (2, 3, Cont.top), (3, 0, Cont.vec 1 3 (List.length L) (nL L)), (4, 0, Cont.vec 1 3 n (nI C))], 157, 192⟩) (by kernel_rfl) (by kernel_rfl) ?_ ?_
                  · exact ⟨i1, isI _ _, hm0, rfl, ⟨by omega, by omega⟩, hb⟩
                  rw [Bf_nB, If_nI]
                  have hx := nxt_ok hm0 (by omega) hg h1 hct (by rw [hC]; exact h2)
                  have hx2 := nxR_eq hm0 (by omega) hg h1 hct (by rw [hC]; exact h2)
                  rw [hC] at hx hx2
                  obtain ⟨x1, x2, x3, x4, x5⟩ := hx
                  rw [hx2]
                  generalize hq : nxt W H g C c = q at x2 x3 x4 x5
                  obtain ⟨fu, rfl⟩ : ∃ f', fu = f' + 1 := ⟨fu - 1, by omega⟩
                  rw [wayR_on hct, hq] at h7
                  have hpr := prc_rng (fstN (onW W H g C c) 8)
                  have hlen : (acc ++ [(q : Int)]).length = acc.length + 1 := by rw [List.length_append]; rfl
                  have k1 : C q < (fu : Int) := by have : C c < ((fu + 1 : Nat) : Int) := h3; omega
                  have k2 : 0 < (acc ++ [(q : Int)]).length := by omega
                  have k3 : (acc ++ [(q : Int)]).getD ((acc ++ [(q : Int)]).length - 1) 0 = q := by rw [hlen]; simp [List.getD_eq_getElem?_getD]
                  have k4 : ((acc ++ [(q : Int)]).length : Int) + C q ≤ 200000 := by rw [hlen]; omega
                  refine block_normal ?_
                  refine then_normal ?_
                  refine evC_goL0 (dec := []) (ks := [(0, 1), (0, 2), (0, 3), (0, 6), (0, 7), (0, 9), (0, 10), (0, 11), (1, 0), (1, 1), (1, 2), (1, 3), (1, 4), (1, 5), (1, 6), (1, 7), (2, 0), (2, 1), (2, 2), (2, 3), (3, 0), (4, 0)]) (s' := ⟨[(0, 1, Cont.cell (AV.ptr 1 0)), (0, 2, Cont.cell (AV.bool false)), (0, 3, Cont.cell (AV.ptr 2 0)), (0, 6, Cont.cell (AV.vs 3)), (0, 7, Cont.cell (AV.int IntKind.i64 0)), (0, 9, Cont.cell (AV.vs 4)), (0, 10, Cont.cell (AV.int IntKind.i64 (↑q : Int))), (0, 11, Cont.cell (AV.int IntKind.i64 (IntKind.i64.wrap ((↑(List.length acc - 1) : Int) + 1)))), (1, 0, Cont.cell (AV.int IntKind.i64 W)), (1, 1, Cont.cell (AV.int IntKind.i64 H)), (1, 2, Cont.cell (AV.rs 1 n0 false (nB g))), (1, 3, Cont.cell (AV.int IntKind.i64 (↑k : Int))), (1, 4, Cont.cell (AV.int IntKind.i64 (↑t : Int))), (1, 5, Cont.cell (AV.int IntKind.i64 m)), (1, 6, Cont.cell (AV.int IntKind.i64 y)), (1, 7, Cont.top), (2, 0, Cont.cell (AV.int IntKind.i64 W)), (2, 1, Cont.cell (AV.int IntKind.i64 H)), (2, 2, Cont.cell (AV.rs 1 n false (nB g))), (2, 3, Cont.top), (3, 0, Cont.vec 1 3 (List.length L) (nL L)), (4, 0, Cont.vec 1 3 n (nI C))], 181, 192⟩) (by kernel_rfl) (by kernel_rfl) ?_
                  refine round_normal (⟨(q, acc ++ [(q : Int)], fu), x3, x4, k1, k2, k3, k4, h7⟩) (wk_go [1, 2, 3, 4] rfl (by decide) rfl rfl ⟨⟨_, rfl, rfl⟩, ⟨_, rfl, rfl⟩, ⟨_, rfl, rfl⟩, ⟨_, rfl, rfl⟩, ⟨_, rfl, rfl⟩, ⟨_, rfl, rfl⟩, ⟨_, rfl, rfl⟩, ⟨_, rfl, ?_⟩, ⟨_, rfl, rfl⟩, ⟨_, rfl, rfl⟩, ⟨_, rfl, rfl⟩, ⟨_, rfl, rfl⟩, ⟨_, rfl, rfl⟩, ⟨_, rfl, rfl⟩, ⟨_, rfl, rfl⟩, ⟨_, rfl, trivial⟩, ⟨_, rfl, rfl⟩, ⟨_, rfl, rfl⟩, ⟨_, rfl, rfl⟩, ⟨_, rfl, trivial⟩, ⟨_, rfl, ⟨rfl, rfl, rfl, fun _ _ => rfl⟩⟩, ⟨_, rfl, ⟨rfl, rfl, rfl, fun _ _ => rfl⟩⟩, trivial⟩) ?_
                  · show AV.int .i64 (IntKind.i64.wrap (((acc.length - 1 : Nat) : Int) + 1)) = AV.int .i64 (((acc ++ [(q : Int)]).length - 1 : Nat) : Int)
                    rw [i64_in _ (by omega)]
                    congr 1
                    rw [hlen]
                    omega
                  · show fu < fu + 1
                    omega
              · exfalso
                have := of_decide_eq_false hc
                omega
  · cases e
end Go.Eng.S13
