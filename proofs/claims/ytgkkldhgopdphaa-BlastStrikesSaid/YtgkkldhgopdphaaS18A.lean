/- Seat 18: which blows may be, and how much they hurt, walked: what each computes, for every argument that its contract names. -/
import Derived.Test.YtgkkldhgopdphaaEngX
import Derived.Test.YtgkkldhgopdphaaEngX
import Derived.Test.YtgkkldhgopdphaaProg
set_option linter.unusedSimpArgs false
set_option linter.unusedVariables false
namespace Go.Eng.S18
open Go.Proofs Go.IntWalk
def T : Tab := [(2, ⟨1, 8, .int .i64, [.int .i64 0]⟩),
  (3, ⟨1, 8, .int .i64, [.int .i64 0]⟩),
  (4, ⟨1, 1, .bool, [.bool false]⟩),
  (23, ⟨4, 32, .struct [(0, 2, 1), (1, 2, 1), (2, 3, 1), (3, 3, 1)], [.int .i64 0, .int .i64 0, .int .i64 0, .int .i64 0]⟩),
  (27, ⟨1, 24, .slice 38, [.nils]⟩),
  (28, ⟨1, 24, .slice 23, [.nils]⟩),
  (31, ⟨1, 24, .slice 3, [.nils]⟩),
  (32, ⟨1, 8, .int .i64, [.int .i64 0]⟩),
  (38, ⟨3, 24, .struct [(0, 2, 1), (1, 2, 1), (2, 3, 1)], [.int .i64 0, .int .i64 0, .int .i64 0]⟩)]
theorem T_ok : TabOK Try.prog T := by
  have e : tabOf Try.prog [2, 3, 4, 23, 27, 28, 31, 32, 38] = T := by kernel_rfl
  exact e ▸ tabOf_sound Try.prog [2, 3, 4, 23, 27, 28, 31, 32, 38]
set_option maxRecDepth 10000

def span (x y : Int) : Bool := inR 0 67108864 x && inR 0 67108864 y
def sSpan : Spec := fun args _ _ => match args with
  | [.int .i64 x, .int .i64 y] => some ⟨[], .bool (span x y), [], []⟩
  | _ => none
theorem span_ok : SpecOK Try.prog 15 sSpan := by
  refine spec_own (by kernel_rfl) T_ok sget_nil Try.func15 rfl rfl fun args hr nb out e => ?_
  unfold sSpan at e
  split at e
  · rename_i x y
    injection e with e; subst e
    refine ⟨(fun _ h => nomatch h), true, [.int .i64 x, .int .i64 y], rfl, fun _ => ⟨.cons _ _ _ _ (.same _ _ (.int _ _)) (.cons _ _ _ _ (.same _ _ (.int _ _)) .nil), ?_⟩⟩
    refine evC_go0 (dec := []) (ks := [(0, 0), (0, 1), (0, 4)]) (s' := ⟨[(0, 0, Cont.cell (AV.int IntKind.i64 x)), (0, 1, Cont.cell (AV.int IntKind.i64 y)), (0, 4, Cont.cell (AV.bool false))], 9, 19⟩) (by kernel_rfl) (by kernel_rfl) ?_
    refine evC_go0 (dec := []) (ks := [(0, 4)]) (s' := ⟨[(0, 4, Cont.cell (AV.bool (bif bif bif decide (x ≥ 0) then decide (x ≤ 67108864) else false then decide (y ≥ 0) else false then decide (y ≤ 67108864) else false)))], 129, 19⟩) (by kernel_rfl) (by kernel_rfl) ?_
    refine evC_ret ?_
    refine post_ret ?_
    refine ends_flat (vs := [AV.bool (bif bif bif decide (x ≥ 0) then decide (x ≤ 67108864) else false then decide (y ≥ 0) else false then decide (y ≤ 67108864) else false)]) (Nat.zero_lt_succ _) (by kernel_rfl) (flat_of _ (by kernel_rfl)) rfl ?_
    simp [span, inR, oneAV, cond_and, Bool.and_assoc]
  · cases e

def mayB (x y d s : Int) : Bool := span x y && inR 0 9999 d && inR 0 8 s
def sMayB : Spec := fun args _ _ => match args with
  | [.agg [.int .i64 x, .int .i64 y, .int .i64 d, .int .i64 s]] => some ⟨[], .bool (mayB x y d s), [], []⟩
  | _ => none
theorem mayB_ok : SpecOK Try.prog 14 sMayB := by
  refine spec_own (by kernel_rfl) T_ok (sget_cons span_ok sget_nil) Try.func14 rfl rfl fun args hr nb out e => ?_
  unfold sMayB at e
  split at e
  · rename_i x y d s
    injection e with e; subst e
    refine ⟨(fun _ h => nomatch h), true, [.agg [.int .i64 x, .int .i64 y, .int .i64 d, .int .i64 s]], rfl, fun _ => ⟨.cons _ _ _ _ (.same _ _ (flat_of _ rfl).has) .nil, ?_⟩⟩
    refine evC_go0 (dec := []) (ks := [(0, 1), (0, 2), (1, 0), (1, 1), (1, 2), (1, 3), (1, 4)]) (s' := ⟨[(0, 1, Cont.cell (AV.ptr 1 0)), (0, 2, Cont.cell (AV.bool false)), (1, 0, Cont.cell (AV.int IntKind.i64 x)), (1, 1, Cont.cell (AV.int IntKind.i64 y)), (1, 2, Cont.cell (AV.int IntKind.i64 d)), (1, 3, Cont.cell (AV.int IntKind.i64 s)), (1, 4, Cont.top)], 17, 28⟩) (by kernel_rfl) (by kernel_rfl) ?_
    refine evC_go0 (dec := []) (ks := [(0, 2)]) (s' := ⟨[(0, 2, Cont.cell (AV.bool (bif bif bif bif span x y then decide (d ≥ 0) else false then decide (d ≤ 9999) else false then decide (s ≥ 0) else false then decide (s ≤ 8) else false)))], 225, 28⟩) (by kernel_rfl) (by kernel_rfl) ?_
    refine evC_ret ?_
    refine post_ret ?_
    refine ends_flat (vs := [AV.bool (bif bif bif bif span x y then decide (d ≥ 0) else false then decide (d ≤ 9999) else false then decide (s ≥ 0) else false then decide (s ≤ 8) else false)]) (Nat.zero_lt_succ _) (by kernel_rfl) (flat_of _ (by kernel_rfl)) rfl ?_
    simp [mayB, inR, oneAV, cond_and, Bool.and_assoc]
  · cases e

def rad (s : Int) : Int := if s = 0 then 32768 else s * 65536
def distF (bx b_y x y : Int) : Int := (x - bx) * (x - bx) + (y - b_y) * (y - b_y)
def hurtsF (bx b_y d s x y : Int) : Int :=
  bif mayB bx b_y d s && span x y then (if rad s * rad s ≤ distF bx b_y x y then 0 else d * (rad s * rad s - distF bx b_y x y) / (rad s * rad s)) else 0
def sHurts : Spec := fun args _ _ => match args with
  | [.agg [.int .i64 bx, .int .i64 b_y, .int .i64 d, .int .i64 s], .int .i64 x, .int .i64 y] => some ⟨[], .int .i64 (hurtsF bx b_y d s x y), [], []⟩
  | _ => none

theorem sq_bound {a : Int} (h : -67108864 ≤ a ∧ a ≤ 67108864) : 0 ≤ a * a ∧ a * a ≤ 4503599627370496 := by
  have h2 : a * a = (a.natAbs : Int) * (a.natAbs : Int) := by rw [← Int.natCast_mul, Int.natAbs_mul_self]
  have h3 : (a.natAbs : Int) ≤ 67108864 := by omega
  rw [h2]
  have h0 : (0 : Int) ≤ (a.natAbs : Int) := Int.natCast_nonneg _
  exact ⟨Int.mul_nonneg h0 h0, Int.le_trans (Int.mul_le_mul h3 h3 h0 (by omega)) (by omega)⟩

theorem may_iff {x y d s : Int} : mayB x y d s = true ↔ (0 ≤ x ∧ x ≤ 67108864) ∧ (0 ≤ y ∧ y ≤ 67108864) ∧ (0 ≤ d ∧ d ≤ 9999) ∧ (0 ≤ s ∧ s ≤ 8) := by
  simp [mayB, span, inR_iff, and_assoc]
theorem span_iff {x y : Int} : span x y = true ↔ (0 ≤ x ∧ x ≤ 67108864) ∧ (0 ≤ y ∧ y ≤ 67108864) := by simp [span, inR_iff]
theorem rad_bound {s : Int} (h : 0 ≤ s ∧ s ≤ 8) : 32768 ≤ rad s ∧ rad s ≤ 524288 ∧ 1073741824 ≤ rad s * rad s ∧ rad s * rad s ≤ 274877906944 := by
  have h1 : 32768 ≤ rad s ∧ rad s ≤ 524288 := by unfold rad; split <;> omega
  refine ⟨h1.1, h1.2, ?_, ?_⟩
  · have := Int.mul_le_mul h1.1 h1.1 (by omega) (by omega); omega
  · have := Int.mul_le_mul h1.2 h1.2 (by omega) (by omega); omega
theorem hurts_bound (bx b_y d s x y : Int) : 0 ≤ hurtsF bx b_y d s x y ∧ hurtsF bx b_y d s x y ≤ 9999 := by
  unfold hurtsF
  cases h : mayB bx b_y d s && span x y with
  | false => simp
  | true =>
    simp only [cond_true]
    simp only [Bool.and_eq_true, may_iff, span_iff] at h
    have hr := rad_bound h.1.2.2.2
    have h1 := sq_bound (a := x - bx) (by omega)
    have h2 := sq_bound (a := y - b_y) (by omega)
    split
    · omega
    · rename_i hlt
      unfold distF at hlt ⊢
      have hp : 0 ≤ d * (rad s * rad s - ((x - bx) * (x - bx) + (y - b_y) * (y - b_y))) := Int.mul_nonneg (by omega) (by omega)
      refine ⟨Int.ediv_nonneg hp (by omega), ?_⟩
      refine Int.le_trans (Int.ediv_le_ediv (by omega) (b := d * (rad s * rad s)) ?_) ?_
      · exact Int.mul_le_mul_of_nonneg_left (by omega) (by omega)
      · rw [Int.mul_ediv_cancel _ (by omega)]; omega

theorem hurts_ok : SpecOK Try.prog 7 sHurts := by
  refine spec_own (by kernel_rfl) T_ok (sget_cons span_ok (sget_cons mayB_ok sget_nil)) Try.func7 rfl rfl fun args hr nb out e => ?_
  unfold sHurts at e
  split at e
  · rename_i bx b_y d s x y
    injection e with e; subst e
    refine ⟨(fun _ h => nomatch h), true, [.agg [.int .i64 bx, .int .i64 b_y, .int .i64 d, .int .i64 s], .int .i64 x, .int .i64 y], rfl, fun _ => ⟨.cons _ _ _ _ (.same _ _ (flat_of _ rfl).has) (.cons _ _ _ _ (.same _ _ (flat_of _ rfl).has) (.cons _ _ _ _ (.same _ _ (flat_of _ rfl).has) .nil)), ?_⟩⟩
    refine evC_go0 (dec := []) (ks := [(0, 1), (0, 2), (0, 3), (0, 6), (1, 0), (1, 1), (1, 2), (1, 3), (1, 4)]) (s' := ⟨[(0, 1, Cont.cell (AV.int IntKind.i64 x)), (0, 2, Cont.cell (AV.int IntKind.i64 y)), (0, 3, Cont.cell (AV.ptr 1 0)), (0, 6, Cont.cell (AV.int IntKind.i64 0)), (1, 0, Cont.cell (AV.int IntKind.i64 bx)), (1, 1, Cont.cell (AV.int IntKind.i64 b_y)), (1, 2, Cont.cell (AV.int IntKind.i64 d)), (1, 3, Cont.cell (AV.int IntKind.i64 s)), (1, 4, Cont.top)], 17, 56⟩) (by kernel_rfl) (by kernel_rfl) ?_
    refine evC_seq ?_
    refine evC_go0 (dec := []) (ks := [(0, 1), (0, 2), (0, 3), (0, 6), (0, 19), (1, 0), (1, 1), (1, 2), (1, 3), (1, 4)]) (s' := ⟨[(0, 1, Cont.cell (AV.int IntKind.i64 x)), (0, 2, Cont.cell (AV.int IntKind.i64 y)), (0, 3, Cont.cell (AV.ptr 1 0)), (0, 6, Cont.cell (AV.int IntKind.i64 0)), (0, 19, Cont.cell (AV.bool (bif !mayB bx b_y d s then true else !span x y))), (1, 0, Cont.cell (AV.int IntKind.i64 bx)), (1, 1, Cont.cell (AV.int IntKind.i64 b_y)), (1, 2, Cont.cell (AV.int IntKind.i64 d)), (1, 3, Cont.cell (AV.int IntKind.i64 s)), (1, 4, Cont.top)], 89, 56⟩) (by kernel_rfl) (by kernel_rfl) ?_
    refine evC_if (q := bif !mayB bx b_y d s then true else !span x y) (by kernel_rfl) (fun hc => ?_) (fun hc => ?_)
    · refine evC_go0 (dec := []) (ks := [(0, 1), (0, 2), (0, 3), (0, 6), (1, 0), (1, 1), (1, 2), (1, 3), (1, 4)]) (s' := ⟨[(0, 1, Cont.cell (AV.int IntKind.i64 x)), (0, 2, Cont.cell (AV.int IntKind.i64 y)), (0, 3, Cont.cell (AV.ptr 1 0)), (0, 6, Cont.cell (AV.int IntKind.i64 0)), (1, 0, Cont.cell (AV.int IntKind.i64 bx)), (1, 1, Cont.cell (AV.int IntKind.i64 b_y)), (1, 2, Cont.cell (AV.int IntKind.i64 d)), (1, 3, Cont.cell (AV.int IntKind.i64 s)), (1, 4, Cont.top)], 97, 56⟩) (by kernel_rfl) (by kernel_rfl) ?_
      refine evC_ret ?_
      refine then_ret ?_
      refine post_ret ?_
      refine ends_flat (vs := [AV.int IntKind.i64 0]) (Nat.zero_lt_succ _) (by kernel_rfl) (flat_of _ (by kernel_rfl)) rfl ?_
      have h : (mayB bx b_y d s && span x y) = false := by cases h1 : mayB bx b_y d s <;> cases h2 : span x y <;> simp [h1, h2] at hc ⊢
      simp [hurtsF, h, oneAV]
    · have h : (mayB bx b_y d s && span x y) = true := by cases h1 : mayB bx b_y d s <;> cases h2 : span x y <;> simp [h1, h2] at hc ⊢
      clear hc
      have hb := h
      simp only [Bool.and_eq_true, may_iff, span_iff] at hb
      have hr := rad_bound hb.1.2.2.2
      have h1 := sq_bound (a := x - bx) (by omega)
      have h2 := sq_bound (a := y - b_y) (by omega)
      have w1 : IntKind.i64.wrap (s * 65536) = s * 65536 := i64_in _ (by omega)
      have w2 : mx2 (s * 65536) 32768 = rad s := by unfold mx2 rad; split <;> split <;> omega
      have w3 : IntKind.i64.wrap (x - bx) = x - bx := i64_in _ (by omega)
      have w4 : IntKind.i64.wrap (y - b_y) = y - b_y := i64_in _ (by omega)
      have w5 : IntKind.i64.wrap ((x - bx) * (x - bx)) = (x - bx) * (x - bx) := i64_in _ (by omega)
      have w6 : IntKind.i64.wrap ((y - b_y) * (y - b_y)) = (y - b_y) * (y - b_y) := i64_in _ (by omega)
      have w7 : IntKind.i64.wrap ((x - bx) * (x - bx) + (y - b_y) * (y - b_y)) = distF bx b_y x y := i64_in _ (by omega)
      have w8 : IntKind.i64.wrap (rad s * rad s) = rad s * rad s := i64_in _ (by omega)
      refine evC_skip ?_
      refine then_normal ?_
      refine evC_go0 (dec := []) (ks := [(0, 1), (0, 2), (0, 3), (0, 6), (0, 7), (1, 0), (1, 1), (1, 2), (1, 3), (1, 4)]) (s' := ⟨[(0, 1, Cont.cell (AV.int IntKind.i64 x)), (0, 2, Cont.cell (AV.int IntKind.i64 y)), (0, 3, Cont.cell (AV.ptr 1 0)), (0, 6, Cont.cell (AV.int IntKind.i64 0)), (0, 7, Cont.cell (AV.int IntKind.i64 (mx2 (IntKind.i64.wrap (s * 65536)) 32768))), (1, 0, Cont.cell (AV.int IntKind.i64 bx)), (1, 1, Cont.cell (AV.int IntKind.i64 b_y)), (1, 2, Cont.cell (AV.int IntKind.i64 d)), (1, 3, Cont.cell (AV.int IntKind.i64 s)), (1, 4, Cont.top)], 129, 56⟩) (by kernel_rfl) (by kernel_rfl) ?_
      rw [w1, w2]
      refine evC_go0 (dec := []) (ks := [(0, 3), (0, 6), (0, 7), (0, 8), (0, 9), (1, 0), (1, 1), (1, 2), (1, 3), (1, 4)]) (s' := ⟨[(0, 3, Cont.cell (AV.ptr 1 0)), (0, 6, Cont.cell (AV.int IntKind.i64 0)), (0, 7, Cont.cell (AV.int IntKind.i64 (rad s))), (0, 8, Cont.cell (AV.int IntKind.i64 (IntKind.i64.wrap (x - bx)))), (0, 9, Cont.cell (AV.int IntKind.i64 (IntKind.i64.wrap (y - b_y)))), (1, 0, Cont.cell (AV.int IntKind.i64 bx)), (1, 1, Cont.cell (AV.int IntKind.i64 b_y)), (1, 2, Cont.cell (AV.int IntKind.i64 d)), (1, 3, Cont.cell (AV.int IntKind.i64 s)), (1, 4, Cont.top)], 209, 56⟩) (by kernel_rfl) (by kernel_rfl) ?_
      rw [w3, w4]
      refine evC_go0 (dec := []) (ks := [(0, 3), (0, 6), (0, 7), (0, 10), (1, 0), (1, 1), (1, 2), (1, 3), (1, 4)]) (s' := ⟨[(0, 3, Cont.cell (AV.ptr 1 0)), (0, 6, Cont.cell (AV.int IntKind.i64 0)), (0, 7, Cont.cell (AV.int IntKind.i64 (rad s))), (0, 10, Cont.cell (AV.int IntKind.i64 (IntKind.i64.wrap (IntKind.i64.wrap ((x - bx) * (x - bx)) + IntKind.i64.wrap ((y - b_y) * (y - b_y)))))), (1, 0, Cont.cell (AV.int IntKind.i64 bx)), (1, 1, Cont.cell (AV.int IntKind.i64 b_y)), (1, 2, Cont.cell (AV.int IntKind.i64 d)), (1, 3, Cont.cell (AV.int IntKind.i64 s)), (1, 4, Cont.top)], 273, 56⟩) (by kernel_rfl) (by kernel_rfl) ?_
      rw [w5, w6, w7]
      refine evC_seq ?_
      refine evC_go0 (dec := []) (ks := [(0, 3), (0, 6), (0, 7), (0, 10), (0, 43), (1, 0), (1, 1), (1, 2), (1, 3), (1, 4)]) (s' := ⟨[(0, 3, Cont.cell (AV.ptr 1 0)), (0, 6, Cont.cell (AV.int IntKind.i64 0)), (0, 7, Cont.cell (AV.int IntKind.i64 (rad s))), (0, 10, Cont.cell (AV.int IntKind.i64 (distF bx b_y x y))), (0, 43, Cont.cell (AV.bool (decide (distF bx b_y x y ≥ IntKind.i64.wrap (rad s * rad s))))), (1, 0, Cont.cell (AV.int IntKind.i64 bx)), (1, 1, Cont.cell (AV.int IntKind.i64 b_y)), (1, 2, Cont.cell (AV.int IntKind.i64 d)), (1, 3, Cont.cell (AV.int IntKind.i64 s)), (1, 4, Cont.top)], 313, 56⟩) (by kernel_rfl) (by kernel_rfl) ?_
      refine evC_if (q := decide (distF bx b_y x y ≥ IntKind.i64.wrap (rad s * rad s))) (by kernel_rfl) (fun hc => ?_) (fun hc => ?_)
      · refine evC_go0 (dec := []) (ks := [(0, 3), (0, 6), (0, 7), (0, 10), (1, 0), (1, 1), (1, 2), (1, 3), (1, 4)]) (s' := ⟨[(0, 3, Cont.cell (AV.ptr 1 0)), (0, 6, Cont.cell (AV.int IntKind.i64 0)), (0, 7, Cont.cell (AV.int IntKind.i64 (rad s))), (0, 10, Cont.cell (AV.int IntKind.i64 (distF bx b_y x y))), (1, 0, Cont.cell (AV.int IntKind.i64 bx)), (1, 1, Cont.cell (AV.int IntKind.i64 b_y)), (1, 2, Cont.cell (AV.int IntKind.i64 d)), (1, 3, Cont.cell (AV.int IntKind.i64 s)), (1, 4, Cont.top)], 321, 56⟩) (by kernel_rfl) (by kernel_rfl) ?_
        refine evC_ret ?_
        refine then_ret ?_
        refine post_ret ?_
        refine ends_flat (vs := [AV.int IntKind.i64 0]) (Nat.zero_lt_succ _) (by kernel_rfl) (flat_of _ (by kernel_rfl)) rfl ?_
        rw [w8] at hc
        have := of_decide_eq_true hc
        simp only [hurtsF, h, cond_true, oneAV]
        rw [if_pos this]
      · rw [w8] at hc
        have hlt : ¬ distF bx b_y x y ≥ rad s * rad s := of_decide_eq_false hc
        have hd : 0 ≤ distF bx b_y x y := by unfold distF; omega
        refine evC_skip ?_
        refine then_normal ?_
        refine evC_go (dec := []) (ks := [(0, 6)]) (ps := [IntKind.i64.wrap (rad s * rad s) ≠ (0 : Int)]) (s' := ⟨[(0, 6, Cont.cell (AV.int IntKind.i64 (IntKind.i64.wrap (Int.tdiv (IntKind.i64.wrap (d * IntKind.i64.wrap (IntKind.i64.wrap (rad s * rad s) - distF bx b_y x y))) (IntKind.i64.wrap (rad s * rad s))))))], 417, 56⟩) (by kernel_rfl) (by kernel_rfl) ?_ ?_
        · rw [w8]; show rad s * rad s ≠ 0; omega
        refine evC_ret ?_
        refine post_ret ?_
        refine ends_flat (vs := [AV.int IntKind.i64 (IntKind.i64.wrap (Int.tdiv (IntKind.i64.wrap (d * IntKind.i64.wrap (IntKind.i64.wrap (rad s * rad s) - distF bx b_y x y))) (IntKind.i64.wrap (rad s * rad s))))]) (Nat.zero_lt_succ _) (by kernel_rfl) (flat_of _ (by kernel_rfl)) rfl ?_
        have w9 : IntKind.i64.wrap (rad s * rad s - distF bx b_y x y) = rad s * rad s - distF bx b_y x y := i64_in _ (by omega)
        have h3 : 0 ≤ d * (rad s * rad s - distF bx b_y x y) := Int.mul_nonneg (by omega) (by omega)
        have h4 : d * (rad s * rad s - distF bx b_y x y) ≤ 9999 * 274877906944 := Int.mul_le_mul (by omega) (by omega) (by omega) (by omega)
        have w10 : IntKind.i64.wrap (d * (rad s * rad s - distF bx b_y x y)) = d * (rad s * rad s - distF bx b_y x y) := i64_in _ (by omega)
        have hb2 := hurts_bound bx b_y d s x y
        have e2 : hurtsF bx b_y d s x y = d * (rad s * rad s - distF bx b_y x y) / (rad s * rad s) := by
          simp only [hurtsF, h, cond_true]; rw [if_neg hlt]
        rw [w8, w9, w10, Int.tdiv_eq_ediv_of_nonneg h3, ← e2, i64_in _ (by omega)]
        rfl
  · cases e

/-! The document's own. -/
def sIn : Spec := fun args _ _ => match args with
  | [.int .i64 v, .int .i64 m] => some ⟨[], .bool (inR 0 m v), [], []⟩
  | _ => none
theorem in_ok : SpecOK Try.prog 17 sIn := by
  refine spec_own (by kernel_rfl) T_ok sget_nil Try.func17 rfl rfl fun args hr nb out e => ?_
  unfold sIn at e
  split at e
  · rename_i v m
    injection e with e; subst e
    refine ⟨(fun _ h => nomatch h), true, [.int .i64 v, .int .i64 m], rfl, fun _ => ⟨.cons _ _ _ _ (.same _ _ (.int _ _)) (.cons _ _ _ _ (.same _ _ (.int _ _)) .nil), ?_⟩⟩
    refine evC_go0 (dec := []) (ks := [(0, 0), (0, 1), (0, 4)]) (s' := ⟨[(0, 0, Cont.cell (AV.int IntKind.i64 v)), (0, 1, Cont.cell (AV.int IntKind.i64 m)), (0, 4, Cont.cell (AV.bool false))], 9, 12⟩) (by kernel_rfl) (by kernel_rfl) ?_
    refine evC_go0 (dec := []) (ks := [(0, 4)]) (s' := ⟨[(0, 4, Cont.cell (AV.bool (bif decide (0 ≤ v) then decide (v ≤ m) else false)))], 73, 12⟩) (by kernel_rfl) (by kernel_rfl) ?_
    refine evC_ret ?_
    refine post_ret ?_
    refine ends_flat (vs := [AV.bool (bif decide (0 ≤ v) then decide (v ≤ m) else false)]) (Nat.zero_lt_succ _) (by kernel_rfl) (flat_of _ (by kernel_rfl)) rfl ?_
    simp [inR, oneAV, cond_and]
  · cases e
theorem refMay_ok : SpecOK Try.prog 16 sMayB := by
  refine spec_own (by kernel_rfl) T_ok (sget_cons in_ok sget_nil) Try.func16 rfl rfl fun args hr nb out e => ?_
  unfold sMayB at e
  split at e
  · rename_i x y d s
    injection e with e; subst e
    refine ⟨(fun _ h => nomatch h), true, [.agg [.int .i64 x, .int .i64 y, .int .i64 d, .int .i64 s]], rfl, fun _ => ⟨.cons _ _ _ _ (.same _ _ (flat_of _ rfl).has) .nil, ?_⟩⟩
    refine evC_go0 (dec := []) (ks := [(0, 1), (0, 2), (1, 0), (1, 1), (1, 2), (1, 3), (1, 4)]) (s' := ⟨[(0, 1, Cont.cell (AV.ptr 1 0)), (0, 2, Cont.cell (AV.bool false)), (1, 0, Cont.cell (AV.int IntKind.i64 x)), (1, 1, Cont.cell (AV.int IntKind.i64 y)), (1, 2, Cont.cell (AV.int IntKind.i64 d)), (1, 3, Cont.cell (AV.int IntKind.i64 s)), (1, 4, Cont.top)], 17, 21⟩) (by kernel_rfl) (by kernel_rfl) ?_
    refine evC_go0 (dec := []) (ks := [(0, 2)]) (s' := ⟨[(0, 2, Cont.cell (AV.bool (bif bif bif inR 0 67108864 x then inR 0 67108864 y else false then inR 0 9999 d else false then inR 0 8 s else false)))], 169, 21⟩) (by kernel_rfl) (by kernel_rfl) ?_
    refine evC_ret ?_
    refine post_ret ?_
    refine ends_flat (vs := [AV.bool (bif bif bif inR 0 67108864 x then inR 0 67108864 y else false then inR 0 9999 d else false then inR 0 8 s else false)]) (Nat.zero_lt_succ _) (by kernel_rfl) (flat_of _ (by kernel_rfl)) rfl ?_
    simp [mayB, span, oneAV, cond_and, Bool.and_assoc]
  · cases e
def mayX (x y h : Int) : Bool := span x y && inR 0 9999 h
def sMayX : Spec := fun args _ _ => match args with
  | [.agg [.int .i64 x, .int .i64 y, .int .i64 h]] => some ⟨[], .bool (mayX x y h), [], []⟩
  | _ => none
theorem refBody_ok : SpecOK Try.prog 19 sMayX := by
  refine spec_own (by kernel_rfl) T_ok (sget_cons in_ok sget_nil) Try.func19 rfl rfl fun args hr nb out e => ?_
  unfold sMayX at e
  split at e
  · rename_i x y h
    injection e with e; subst e
    refine ⟨(fun _ h => nomatch h), true, [.agg [.int .i64 x, .int .i64 y, .int .i64 h]], rfl, fun _ => ⟨.cons _ _ _ _ (.same _ _ (flat_of _ rfl).has) .nil, ?_⟩⟩
    refine evC_go0 (dec := []) (ks := [(0, 1), (0, 2), (1, 0), (1, 1), (1, 2), (1, 3)]) (s' := ⟨[(0, 1, Cont.cell (AV.ptr 1 0)), (0, 2, Cont.cell (AV.bool false)), (1, 0, Cont.cell (AV.int IntKind.i64 x)), (1, 1, Cont.cell (AV.int IntKind.i64 y)), (1, 2, Cont.cell (AV.int IntKind.i64 h)), (1, 3, Cont.top)], 17, 16⟩) (by kernel_rfl) (by kernel_rfl) ?_
    refine evC_go0 (dec := []) (ks := [(0, 2)]) (s' := ⟨[(0, 2, Cont.cell (AV.bool (bif bif inR 0 67108864 x then inR 0 67108864 y else false then inR 0 9999 h else false)))], 129, 16⟩) (by kernel_rfl) (by kernel_rfl) ?_
    refine evC_ret ?_
    refine post_ret ?_
    refine ends_flat (vs := [AV.bool (bif bif inR 0 67108864 x then inR 0 67108864 y else false then inR 0 9999 h else false)]) (Nat.zero_lt_succ _) (by kernel_rfl) (flat_of _ (by kernel_rfl)) rfl ?_
    simp [mayX, span, oneAV, cond_and, Bool.and_assoc]
  · cases e
theorem refHurts_ok : SpecOK Try.prog 8 sHurts := by
  refine spec_own (by kernel_rfl) T_ok (sget_cons in_ok (sget_cons refMay_ok sget_nil)) Try.func8 rfl rfl fun args hr nb out e => ?_
  unfold sHurts at e
  split at e
  · rename_i bx b_y d s x y
    injection e with e; subst e
    refine ⟨(fun _ h => nomatch h), true, [.agg [.int .i64 bx, .int .i64 b_y, .int .i64 d, .int .i64 s], .int .i64 x, .int .i64 y], rfl, fun _ => ⟨.cons _ _ _ _ (.same _ _ (flat_of _ rfl).has) (.cons _ _ _ _ (.same _ _ (flat_of _ rfl).has) (.cons _ _ _ _ (.same _ _ (flat_of _ rfl).has) .nil)), ?_⟩⟩
    refine evC_go0 (dec := []) (ks := [(0, 1), (0, 2), (0, 3), (0, 6), (1, 0), (1, 1), (1, 2), (1, 3), (1, 4)]) (s' := ⟨[(0, 1, Cont.cell (AV.int IntKind.i64 x)), (0, 2, Cont.cell (AV.int IntKind.i64 y)), (0, 3, Cont.cell (AV.ptr 1 0)), (0, 6, Cont.cell (AV.int IntKind.i64 0)), (1, 0, Cont.cell (AV.int IntKind.i64 bx)), (1, 1, Cont.cell (AV.int IntKind.i64 b_y)), (1, 2, Cont.cell (AV.int IntKind.i64 d)), (1, 3, Cont.cell (AV.int IntKind.i64 s)), (1, 4, Cont.top)], 17, 64⟩) (by kernel_rfl) (by kernel_rfl) ?_
    refine evC_seq ?_
    refine evC_go0 (dec := []) (ks := [(0, 1), (0, 2), (0, 3), (0, 6), (0, 21), (1, 0), (1, 1), (1, 2), (1, 3), (1, 4)]) (s' := ⟨[(0, 1, Cont.cell (AV.int IntKind.i64 x)), (0, 2, Cont.cell (AV.int IntKind.i64 y)), (0, 3, Cont.cell (AV.ptr 1 0)), (0, 6, Cont.cell (AV.int IntKind.i64 0)), (0, 21, Cont.cell (AV.bool (bif bif !mayB bx b_y d s then true else !inR 0 67108864 x then true else !inR 0 67108864 y))), (1, 0, Cont.cell (AV.int IntKind.i64 bx)), (1, 1, Cont.cell (AV.int IntKind.i64 b_y)), (1, 2, Cont.cell (AV.int IntKind.i64 d)), (1, 3, Cont.cell (AV.int IntKind.i64 s)), (1, 4, Cont.top)], 121, 64⟩) (by kernel_rfl) (by kernel_rfl) ?_
    refine evC_if (q := bif bif !mayB bx b_y d s then true else !inR 0 67108864 x then true else !inR 0 67108864 y) (by kernel_rfl) (fun hc => ?_) (fun hc => ?_)
    · refine evC_go0 (dec := []) (ks := [(0, 1), (0, 2), (0, 3), (0, 6), (1, 0), (1, 1), (1, 2), (1, 3), (1, 4)]) (s' := ⟨[(0, 1, Cont.cell (AV.int IntKind.i64 x)), (0, 2, Cont.cell (AV.int IntKind.i64 y)), (0, 3, Cont.cell (AV.ptr 1 0)), (0, 6, Cont.cell (AV.int IntKind.i64 0)), (1, 0, Cont.cell (AV.int IntKind.i64 bx)), (1, 1, Cont.cell (AV.int IntKind.i64 b_y)), (1, 2, Cont.cell (AV.int IntKind.i64 d)), (1, 3, Cont.cell (AV.int IntKind.i64 s)), (1, 4, Cont.top)], 129, 64⟩) (by kernel_rfl) (by kernel_rfl) ?_
      refine evC_ret ?_
      refine then_ret ?_
      refine post_ret ?_
      refine ends_flat (vs := [AV.int IntKind.i64 0]) (Nat.zero_lt_succ _) (by kernel_rfl) (flat_of _ (by kernel_rfl)) rfl ?_
      have h : (mayB bx b_y d s && span x y) = false := by cases h1 : mayB bx b_y d s <;> cases h2 : inR 0 67108864 x <;> cases h3 : inR 0 67108864 y <;> simp [h1, h2, h3, span] at hc ⊢
      simp [hurtsF, h, oneAV]
    · have h : (mayB bx b_y d s && span x y) = true := by cases h1 : mayB bx b_y d s <;> cases h2 : inR 0 67108864 x <;> cases h3 : inR 0 67108864 y <;> simp [h1, h2, h3, span] at hc ⊢
      clear hc
      have hb := h
      simp only [Bool.and_eq_true, may_iff, span_iff] at hb
      have hr := rad_bound hb.1.2.2.2
      have h1 := sq_bound (a := x - bx) (by omega)
      have h2 := sq_bound (a := y - b_y) (by omega)
      have w1 : IntKind.i64.wrap (s * 65536) = s * 65536 := i64_in _ (by omega)
      have w3 : IntKind.i64.wrap (x - bx) = x - bx := i64_in _ (by omega)
      have w4 : IntKind.i64.wrap (y - b_y) = y - b_y := i64_in _ (by omega)
      have w5 : IntKind.i64.wrap ((x - bx) * (x - bx)) = (x - bx) * (x - bx) := i64_in _ (by omega)
      have w6 : IntKind.i64.wrap ((y - b_y) * (y - b_y)) = (y - b_y) * (y - b_y) := i64_in _ (by omega)
      have w7 : IntKind.i64.wrap ((x - bx) * (x - bx) + (y - b_y) * (y - b_y)) = distF bx b_y x y := i64_in _ (by omega)
      have w8 : IntKind.i64.wrap (rad s * rad s) = rad s * rad s := i64_in _ (by omega)
      refine evC_skip ?_
      refine then_normal ?_
      refine evC_go0 (dec := []) (ks := [(0, 1), (0, 2), (0, 3), (0, 6), (0, 7), (1, 0), (1, 1), (1, 2), (1, 3), (1, 4)]) (s' := ⟨[(0, 1, Cont.cell (AV.int IntKind.i64 x)), (0, 2, Cont.cell (AV.int IntKind.i64 y)), (0, 3, Cont.cell (AV.ptr 1 0)), (0, 6, Cont.cell (AV.int IntKind.i64 0)), (0, 7, Cont.cell (AV.int IntKind.i64 (IntKind.i64.wrap (s * 65536)))), (1, 0, Cont.cell (AV.int IntKind.i64 bx)), (1, 1, Cont.cell (AV.int IntKind.i64 b_y)), (1, 2, Cont.cell (AV.int IntKind.i64 d)), (1, 3, Cont.cell (AV.int IntKind.i64 s)), (1, 4, Cont.top)], 153, 64⟩) (by kernel_rfl) (by kernel_rfl) ?_
      rw [w1]
      refine evC_cutTo (ι := Unit) (fun _ => ⟨[(0, 1, Cont.cell (AV.int IntKind.i64 x)), (0, 2, Cont.cell (AV.int IntKind.i64 y)), (0, 3, Cont.cell (AV.ptr 1 0)), (0, 6, Cont.cell (AV.int IntKind.i64 0)), (0, 7, .cell (.int .i64 (rad s))), (1, 0, Cont.cell (AV.int IntKind.i64 bx)), (1, 1, Cont.cell (AV.int IntKind.i64 b_y)), (1, 2, Cont.cell (AV.int IntKind.i64 d)), (1, 3, Cont.cell (AV.int IntKind.i64 s)), (1, 4, Cont.top)], 2, 64⟩) ?_ ?_
      · refine evC_go0 (dec := []) (ks := [(0, 1), (0, 2), (0, 3), (0, 6), (0, 7), (0, 27), (1, 0), (1, 1), (1, 2), (1, 3), (1, 4)]) (s' := ⟨[(0, 1, Cont.cell (AV.int IntKind.i64 x)), (0, 2, Cont.cell (AV.int IntKind.i64 y)), (0, 3, Cont.cell (AV.ptr 1 0)), (0, 6, Cont.cell (AV.int IntKind.i64 0)), (0, 7, Cont.cell (AV.int IntKind.i64 (s * 65536))), (0, 27, Cont.cell (AV.bool (s == 0))), (1, 0, Cont.cell (AV.int IntKind.i64 bx)), (1, 1, Cont.cell (AV.int IntKind.i64 b_y)), (1, 2, Cont.cell (AV.int IntKind.i64 d)), (1, 3, Cont.cell (AV.int IntKind.i64 s)), (1, 4, Cont.top)], 177, 64⟩) (by kernel_rfl) (by kernel_rfl) ?_
        refine evC_if (q := s == 0) (by kernel_rfl) (fun hc => ?_) (fun hc => ?_)
        · refine evC_goL0 (dec := []) (ks := [(0, 1), (0, 2), (0, 3), (0, 6), (0, 7), (1, 0), (1, 1), (1, 2), (1, 3), (1, 4)]) (s' := ⟨[(0, 1, Cont.cell (AV.int IntKind.i64 x)), (0, 2, Cont.cell (AV.int IntKind.i64 y)), (0, 3, Cont.cell (AV.ptr 1 0)), (0, 6, Cont.cell (AV.int IntKind.i64 0)), (0, 7, Cont.cell (AV.int IntKind.i64 32768)), (1, 0, Cont.cell (AV.int IntKind.i64 bx)), (1, 1, Cont.cell (AV.int IntKind.i64 b_y)), (1, 2, Cont.cell (AV.int IntKind.i64 d)), (1, 3, Cont.cell (AV.int IntKind.i64 s)), (1, 4, Cont.top)], 185, 64⟩) (by kernel_rfl) (by kernel_rfl) ?_
          have : s = 0 := by simpa using hc
          subst this
          refine cut_normal (()) (wk_go [1] rfl (by decide) rfl rfl ⟨⟨_, rfl, rfl⟩, ⟨_, rfl, rfl⟩, ⟨_, rfl, rfl⟩, ⟨_, rfl, rfl⟩, ⟨_, rfl, rfl⟩, ⟨_, rfl, rfl⟩, ⟨_, rfl, rfl⟩, ⟨_, rfl, rfl⟩, ⟨_, rfl, rfl⟩, ⟨_, rfl, trivial⟩, trivial⟩)
        · refine evC_skip ?_
          have : s ≠ 0 := by simpa using hc
          refine cut_normal (()) (wk_go [1] rfl (by decide) rfl rfl ⟨⟨_, rfl, rfl⟩, ⟨_, rfl, rfl⟩, ⟨_, rfl, rfl⟩, ⟨_, rfl, rfl⟩, ⟨_, rfl, ?_⟩, ⟨_, rfl, rfl⟩, ⟨_, rfl, rfl⟩, ⟨_, rfl, rfl⟩, ⟨_, rfl, rfl⟩, ⟨_, rfl, trivial⟩, trivial⟩)
          simp [rad, this]
          rfl
      intro _
      refine evC_go0 (dec := []) (ks := [(0, 3), (0, 6), (0, 7), (0, 8), (1, 0), (1, 1), (1, 2), (1, 3), (1, 4)]) (s' := ⟨[(0, 3, Cont.cell (AV.ptr 1 0)), (0, 6, Cont.cell (AV.int IntKind.i64 0)), (0, 7, Cont.cell (AV.int IntKind.i64 (rad s))), (0, 8, Cont.cell (AV.int IntKind.i64 (IntKind.i64.wrap (IntKind.i64.wrap (IntKind.i64.wrap (x - bx) * IntKind.i64.wrap (x - bx)) + IntKind.i64.wrap (IntKind.i64.wrap (y - b_y) * IntKind.i64.wrap (y - b_y)))))), (1, 0, Cont.cell (AV.int IntKind.i64 bx)), (1, 1, Cont.cell (AV.int IntKind.i64 b_y)), (1, 2, Cont.cell (AV.int IntKind.i64 d)), (1, 3, Cont.cell (AV.int IntKind.i64 s)), (1, 4, Cont.top)], 162, 64⟩) (by kernel_rfl) (by kernel_rfl) ?_
      rw [w3, w4, w5, w6, w7]
      refine evC_seq ?_
      refine evC_go0 (dec := []) (ks := [(0, 3), (0, 6), (0, 7), (0, 8), (0, 51), (1, 0), (1, 1), (1, 2), (1, 3), (1, 4)]) (s' := ⟨[(0, 3, Cont.cell (AV.ptr 1 0)), (0, 6, Cont.cell (AV.int IntKind.i64 0)), (0, 7, Cont.cell (AV.int IntKind.i64 (rad s))), (0, 8, Cont.cell (AV.int IntKind.i64 (distF bx b_y x y))), (0, 51, Cont.cell (AV.bool (decide (distF bx b_y x y ≥ IntKind.i64.wrap (rad s * rad s))))), (1, 0, Cont.cell (AV.int IntKind.i64 bx)), (1, 1, Cont.cell (AV.int IntKind.i64 b_y)), (1, 2, Cont.cell (AV.int IntKind.i64 d)), (1, 3, Cont.cell (AV.int IntKind.i64 s)), (1, 4, Cont.top)], 202, 64⟩) (by kernel_rfl) (by kernel_rfl) ?_
      refine evC_if (q := decide (distF bx b_y x y ≥ IntKind.i64.wrap (rad s * rad s))) (by kernel_rfl) (fun hc => ?_) (fun hc => ?_)
      · refine evC_go0 (dec := []) (ks := [(0, 3), (0, 6), (0, 7), (0, 8), (1, 0), (1, 1), (1, 2), (1, 3), (1, 4)]) (s' := ⟨[(0, 3, Cont.cell (AV.ptr 1 0)), (0, 6, Cont.cell (AV.int IntKind.i64 0)), (0, 7, Cont.cell (AV.int IntKind.i64 (rad s))), (0, 8, Cont.cell (AV.int IntKind.i64 (distF bx b_y x y))), (1, 0, Cont.cell (AV.int IntKind.i64 bx)), (1, 1, Cont.cell (AV.int IntKind.i64 b_y)), (1, 2, Cont.cell (AV.int IntKind.i64 d)), (1, 3, Cont.cell (AV.int IntKind.i64 s)), (1, 4, Cont.top)], 210, 64⟩) (by kernel_rfl) (by kernel_rfl) ?_
        refine evC_ret ?_
        refine then_ret ?_
        refine post_ret ?_
        refine ends_flat (vs := [AV.int IntKind.i64 0]) (Nat.zero_lt_succ _) (by kernel_rfl) (flat_of _ (by kernel_rfl)) rfl ?_
        rw [w8] at hc
        have := of_decide_eq_true hc
        simp only [hurtsF, h, cond_true, oneAV]
        rw [if_pos this]
      · rw [w8] at hc
        have hlt : ¬ distF bx b_y x y ≥ rad s * rad s := of_decide_eq_false hc
        have hd : 0 ≤ distF bx b_y x y := by unfold distF; omega
        refine evC_skip ?_
        refine then_normal ?_
        refine evC_go (dec := []) (ks := [(0, 6)]) (ps := [IntKind.i64.wrap (rad s * rad s) ≠ (0 : Int)]) (s' := ⟨[(0, 6, Cont.cell (AV.int IntKind.i64 (IntKind.i64.wrap (Int.tdiv (IntKind.i64.wrap (d * IntKind.i64.wrap (IntKind.i64.wrap (rad s * rad s) - distF bx b_y x y))) (IntKind.i64.wrap (rad s * rad s))))))], 306, 64⟩) (by kernel_rfl) (by kernel_rfl) ?_ ?_
        · rw [w8]; show rad s * rad s ≠ 0; omega
        refine evC_ret ?_
        refine post_ret ?_
        refine ends_flat (vs := [AV.int IntKind.i64 (IntKind.i64.wrap (Int.tdiv (IntKind.i64.wrap (d * IntKind.i64.wrap (IntKind.i64.wrap (rad s * rad s) - distF bx b_y x y))) (IntKind.i64.wrap (rad s * rad s))))]) (Nat.zero_lt_succ _) (by kernel_rfl) (flat_of _ (by kernel_rfl)) rfl ?_
        have w9 : IntKind.i64.wrap (rad s * rad s - distF bx b_y x y) = rad s * rad s - distF bx b_y x y := i64_in _ (by omega)
        have h3 : 0 ≤ d * (rad s * rad s - distF bx b_y x y) := Int.mul_nonneg (by omega) (by omega)
        have h4 : d * (rad s * rad s - distF bx b_y x y) ≤ 9999 * 274877906944 := Int.mul_le_mul (by omega) (by omega) (by omega) (by omega)
        have w10 : IntKind.i64.wrap (d * (rad s * rad s - distF bx b_y x y)) = d * (rad s * rad s - distF bx b_y x y) := i64_in _ (by omega)
        have hb2 := hurts_bound bx b_y d s x y
        have e2 : hurtsF bx b_y d s x y = d * (rad s * rad s - distF bx b_y x y) / (rad s * rad s) := by
          simp only [hurtsF, h, cond_true]; rw [if_neg hlt]
        rw [w8, w9, w10, Int.tdiv_eq_ediv_of_nonneg h3, ← e2, i64_in _ (by omega)]
        rfl
  · cases e
end Go.Eng.S18
