/- Seat 13: steps, walked. -/
import Derived.Test.YtmlpggggahpoaaaEngX
import Derived.Test.YtmlpggggahpoaaaS13D
set_option linter.unusedSimpArgs false
set_option linter.unusedVariables false
namespace Go.Eng.S13
open Go.Proofs Go.IntWalk
set_option maxRecDepth 10000

def dI (s : Nat) : Int := [1, 1, 0, -1, -1, -1, 0, 1].getD s 0
def dJ (s : Nat) : Int := [0, 1, 1, 1, 0, -1, -1, -1].getD s 0
def prc (s : Nat) : Int := 2 + (s : Int) % 2
theorem d_rng {s : Nat} (h : s < 8) : (-1 ≤ dI s ∧ dI s ≤ 1) ∧ (-1 ≤ dJ s ∧ dJ s ≤ 1) := by
  rcases (by omega : s = 0 ∨ s = 1 ∨ s = 2 ∨ s = 3 ∨ s = 4 ∨ s = 5 ∨ s = 6 ∨ s = 7) with rfl | rfl | rfl | rfl | rfl | rfl | rfl | rfl <;> decide
def stepsV : AV := .agg [.int .i64 1, .int .i64 0, .int .i64 2, .int .i64 1, .int .i64 1, .int .i64 3, .int .i64 0, .int .i64 1, .int .i64 2, .int .i64 (-1), .int .i64 1, .int .i64 3,
  .int .i64 (-1), .int .i64 0, .int .i64 2, .int .i64 (-1), .int .i64 (-1), .int .i64 3, .int .i64 0, .int .i64 (-1), .int .i64 2, .int .i64 1, .int .i64 (-1), .int .i64 3]
def sSteps : Spec := fun args _ _ => match args with
  | [] => some ⟨[], stepsV, [], []⟩
  | _ => none
theorem steps_ok : SpecOK Try.prog 24 sSteps := by
  refine spec_own (by kernel_rfl) T_ok sget_nil Try.func24 rfl rfl fun args hr nb out e => ?_
  unfold sSteps at e
  split at e
  · injection e with e; subst e
    refine ⟨(fun _ h => nomatch h), true, [], rfl, fun hs => ⟨.nil, ?_⟩⟩
    refine evC_go0 (dec := []) (ks := [(0, 0), (1, 0), (1, 1), (1, 2), (1, 3), (1, 4), (1, 5), (1, 6), (1, 7), (1, 8), (1, 9), (1, 10), (1, 11), (1, 12), (1, 13), (1, 14), (1, 15), (1, 16), (1, 17), (1, 18), (1, 19), (1, 20), (1, 21), (1, 22), (1, 23), (1, 24)]) (s' := ⟨[(0, 0, Cont.cell (AV.ptr 1 0)), (1, 0, Cont.cell (AV.int IntKind.i64 0)), (1, 1, Cont.cell (AV.int IntKind.i64 0)), (1, 2, Cont.cell (AV.int IntKind.i64 0)), (1, 3, Cont.cell (AV.int IntKind.i64 0)), (1, 4, Cont.cell (AV.int IntKind.i64 0)), (1, 5, Cont.cell (AV.int IntKind.i64 0)), (1, 6, Cont.cell (AV.int IntKind.i64 0)), (1, 7, Cont.cell (AV.int IntKind.i64 0)), (1, 8, Cont.cell (AV.int IntKind.i64 0)), (1, 9, Cont.cell (AV.int IntKind.i64 0)), (1, 10, Cont.cell (AV.int IntKind.i64 0)), (1, 11, Cont.cell (AV.int IntKind.i64 0)), (1, 12, Cont.cell (AV.int IntKind.i64 0)), (1, 13, Cont.cell (AV.int IntKind.i64 0)), (1, 14, Cont.cell (AV.int IntKind.i64 0)), (1, 15, Cont.cell (AV.int IntKind.i64 0)), (1, 16, Cont.cell (AV.int IntKind.i64 0)), (1, 17, Cont.cell (AV.int IntKind.i64 0)), (1, 18, Cont.cell (AV.int IntKind.i64 0)), (1, 19, Cont.cell (AV.int IntKind.i64 0)), (1, 20, Cont.cell (AV.int IntKind.i64 0)), (1, 21, Cont.cell (AV.int IntKind.i64 0)), (1, 22, Cont.cell (AV.int IntKind.i64 0)), (1, 23, Cont.cell (AV.int IntKind.i64 0)), (1, 24, Cont.top)], 9, 10⟩) (by kernel_rfl) (by kernel_rfl) ?_
    refine evC_go0 (dec := []) (ks := [(0, 0), (1, 0), (1, 1), (1, 2), (1, 3), (1, 4), (1, 5), (1, 6), (1, 7), (1, 8), (1, 9), (1, 10), (1, 11), (1, 12), (1, 13), (1, 14), (1, 15), (1, 16), (1, 17), (1, 18), (1, 19), (1, 20), (1, 21), (1, 22), (1, 23), (1, 24)]) (s' := ⟨[(0, 0, Cont.cell (AV.ptr 1 0)), (1, 0, Cont.cell (AV.int IntKind.i64 1)), (1, 1, Cont.cell (AV.int IntKind.i64 0)), (1, 2, Cont.cell (AV.int IntKind.i64 2)), (1, 3, Cont.cell (AV.int IntKind.i64 1)), (1, 4, Cont.cell (AV.int IntKind.i64 1)), (1, 5, Cont.cell (AV.int IntKind.i64 3)), (1, 6, Cont.cell (AV.int IntKind.i64 0)), (1, 7, Cont.cell (AV.int IntKind.i64 1)), (1, 8, Cont.cell (AV.int IntKind.i64 2)), (1, 9, Cont.cell (AV.int IntKind.i64 (-1))), (1, 10, Cont.cell (AV.int IntKind.i64 1)), (1, 11, Cont.cell (AV.int IntKind.i64 3)), (1, 12, Cont.cell (AV.int IntKind.i64 (-1))), (1, 13, Cont.cell (AV.int IntKind.i64 0)), (1, 14, Cont.cell (AV.int IntKind.i64 2)), (1, 15, Cont.cell (AV.int IntKind.i64 (-1))), (1, 16, Cont.cell (AV.int IntKind.i64 (-1))), (1, 17, Cont.cell (AV.int IntKind.i64 3)), (1, 18, Cont.cell (AV.int IntKind.i64 0)), (1, 19, Cont.cell (AV.int IntKind.i64 (-1))), (1, 20, Cont.cell (AV.int IntKind.i64 2)), (1, 21, Cont.cell (AV.int IntKind.i64 1)), (1, 22, Cont.cell (AV.int IntKind.i64 (-1))), (1, 23, Cont.cell (AV.int IntKind.i64 3)), (1, 24, Cont.top)], 89, 10⟩) (by kernel_rfl) (by kernel_rfl) ?_
    refine evC_ret ?_
    refine post_ret ?_
    refine ends_flat (vs := [AV.agg [AV.int IntKind.i64 1, AV.int IntKind.i64 0, AV.int IntKind.i64 2, AV.int IntKind.i64 1, AV.int IntKind.i64 1, AV.int IntKind.i64 3, AV.int IntKind.i64 0, AV.int IntKind.i64 1, AV.int IntKind.i64 2, AV.int IntKind.i64 (-1), AV.int IntKind.i64 1, AV.int IntKind.i64 3, AV.int IntKind.i64 (-1), AV.int IntKind.i64 0, AV.int IntKind.i64 2, AV.int IntKind.i64 (-1), AV.int IntKind.i64 (-1), AV.int IntKind.i64 3, AV.int IntKind.i64 0, AV.int IntKind.i64 (-1), AV.int IntKind.i64 2, AV.int IntKind.i64 1, AV.int IntKind.i64 (-1), AV.int IntKind.i64 3]]) (Nat.zero_lt_succ _) (by kernel_rfl) (flat_of _ (by kernel_rfl)) rfl ?_
    rfl
  · cases e
def sPrice : Spec := fun args _ _ => match args with
  | [.int .i64 s] => some ⟨[0 ≤ s ∧ s < 8], .int .i64 (prc s.toNat), [], []⟩
  | _ => none
theorem price_ok : SpecOK Try.prog 18 sPrice := by
  refine spec_own (by kernel_rfl) T_ok sget_nil Try.func18 rfl rfl fun args hr nb out e => ?_
  unfold sPrice at e
  split at e
  · rename_i s
    injection e with e; subst e
    refine ⟨(fun _ h => nomatch h), true, [.int .i64 s], rfl, fun hs => ⟨.cons _ _ _ _ (.same _ _ (.int _ _)) .nil, ?_⟩⟩
    obtain ⟨h0, h1⟩ := hs _ List.mem_cons_self
    clear hs
    obtain ⟨s, rfl⟩ := Int.eq_ofNat_of_zero_le h0
    refine evC_go0 (dec := []) (ks := [(0, 0), (0, 2)]) (s' := ⟨[(0, 0, Cont.cell (AV.int IntKind.i64 (↑s : Int))), (0, 2, Cont.cell (AV.int IntKind.i64 0))], 9, 6⟩) (by kernel_rfl) (by kernel_rfl) ?_
    refine evC_go (dec := []) (ks := [(0, 2)]) (ps := [(2 : Int) ≠ (0 : Int)]) (s' := ⟨[(0, 2, Cont.cell (AV.int IntKind.i64 (IntKind.i64.wrap (2 + Int.tmod (↑s : Int) 2))))], 41, 6⟩) (by kernel_rfl) (by kernel_rfl) ?_ ?_
    · (simp only [All]; (repeat' apply And.intro) <;> (try intro _) <;> (try intro _) <;> (repeat' apply And.intro) <;> (try intro _) <;> (try intro _) <;> first | trivial | assumption | exact .inr trivial | exact .inr rfl | omega | rfl | exact ⟨_, rfl, rfl⟩ | exact ⟨rfl, rfl⟩ | exact ⟨fun _ => rfl, fun _ => rfl⟩ | (unfold maxLen; omega) | (unfold i64R; first | omega | decide) | decide)
    refine evC_ret ?_
    refine post_ret ?_
    refine ends_flat (vs := [AV.int IntKind.i64 (IntKind.i64.wrap (2 + Int.tmod (↑s : Int) 2))]) (Nat.zero_lt_succ _) (by kernel_rfl) (flat_of _ (by kernel_rfl)) rfl ?_
    refine congrArg (AV.int .i64) ?_
    show prc s = _
    unfold prc
    rw [Int.tmod_eq_emod_of_nonneg (by omega), i64_in _ (by omega)]
  · cases e
def sWay : Spec := fun args _ _ => match args with
  | [.int .i64 s] => some ⟨[0 ≤ s ∧ s < 8], .tup [.int .i64 (dI s.toNat), .int .i64 (dJ s.toNat)], [], []⟩
  | _ => none
theorem way_ok : SpecOK Try.prog 27 sWay := by
  refine spec_own (by kernel_rfl) T_ok sget_nil Try.func27 rfl rfl fun args hr nb out e => ?_
  unfold sWay at e
  split at e
  · rename_i s
    injection e with e; subst e
    refine ⟨(fun _ h => nomatch h), true, [.int .i64 s], rfl, fun hs => ⟨.cons _ _ _ _ (.same _ _ (.int _ _)) .nil, ?_⟩⟩
    obtain ⟨h0, h1⟩ := hs _ List.mem_cons_self
    clear hs
    obtain ⟨x1, hx1⟩ : ∃ x : Int, x = bif (bif bif s == 0 then true else s == 1 then true else s == 7) then 1 else 0 := ⟨_, rfl⟩
    obtain ⟨x2, hx2⟩ : ∃ x : Int, x = bif (bif bif s == 3 then true else s == 4 then true else s == 5) then -1 else x1 := ⟨_, rfl⟩
    obtain ⟨y1, hy1⟩ : ∃ x : Int, x = bif (bif bif s == 1 then true else s == 2 then true else s == 3) then 1 else 0 := ⟨_, rfl⟩
    obtain ⟨y2, hy2⟩ : ∃ x : Int, x = bif (bif bif s == 5 then true else s == 6 then true else s == 7) then -1 else y1 := ⟨_, rfl⟩
    have hI : dI s.toNat = x2 := by
      rw [hx2, hx1]
      rcases (by omega : s = 0 ∨ s = 1 ∨ s = 2 ∨ s = 3 ∨ s = 4 ∨ s = 5 ∨ s = 6 ∨ s = 7) with rfl | rfl | rfl | rfl | rfl | rfl | rfl | rfl <;> rfl
    have hJ : dJ s.toNat = y2 := by
      rw [hy2, hy1]
      rcases (by omega : s = 0 ∨ s = 1 ∨ s = 2 ∨ s = 3 ∨ s = 4 ∨ s = 5 ∨ s = 6 ∨ s = 7) with rfl | rfl | rfl | rfl | rfl | rfl | rfl | rfl <;> rfl
    rw [hI, hJ]
    clear hI hJ
    refine evC_go0 (dec := []) (ks := [(0, 0), (0, 2), (0, 3)]) (s' := ⟨[(0, 0, Cont.cell (AV.int IntKind.i64 s)), (0, 2, Cont.cell (AV.int IntKind.i64 0)), (0, 3, Cont.cell (AV.int IntKind.i64 0))], 17, 48⟩) (by kernel_rfl) (by kernel_rfl) ?_
    refine evC_go0 (dec := []) (ks := [(0, 0), (0, 2), (0, 3), (0, 4), (0, 5)]) (s' := ⟨[(0, 0, Cont.cell (AV.int IntKind.i64 s)), (0, 2, Cont.cell (AV.int IntKind.i64 0)), (0, 3, Cont.cell (AV.int IntKind.i64 0)), (0, 4, Cont.cell (AV.int IntKind.i64 0)), (0, 5, Cont.cell (AV.int IntKind.i64 0))], 33, 48⟩) (by kernel_rfl) (by kernel_rfl) ?_
    refine evC_cutTo (ι := Unit) (fun _ => ⟨[(0, 0, Cont.cell (AV.int IntKind.i64 s)), (0, 2, Cont.cell (AV.int IntKind.i64 0)), (0, 3, Cont.cell (AV.int IntKind.i64 0)), (0, 4, .cell (.int .i64 x1)), (0, 5, Cont.cell (AV.int IntKind.i64 0))], 1, 48⟩) ?_ ?_
    · refine evC_go0 (dec := []) (ks := [(0, 0), (0, 2), (0, 3), (0, 4), (0, 5), (0, 15)]) (s' := ⟨[(0, 0, Cont.cell (AV.int IntKind.i64 s)), (0, 2, Cont.cell (AV.int IntKind.i64 0)), (0, 3, Cont.cell (AV.int IntKind.i64 0)), (0, 4, Cont.cell (AV.int IntKind.i64 0)), (0, 5, Cont.cell (AV.int IntKind.i64 0)), (0, 15, Cont.cell (AV.bool (bif bif s == 0 then true else s == 1 then true else s == 7)))], 113, 48⟩) (by kernel_rfl) (by kernel_rfl) ?_
      refine evC_if (q := bif bif s == 0 then true else s == 1 then true else s == 7) (by kernel_rfl) (fun hc => ?_) (fun hc => ?_)
      · rw [hc] at hx1
        refine evC_goL0 (dec := []) (ks := [(0, 0), (0, 2), (0, 3), (0, 4), (0, 5)]) (s' := ⟨[(0, 0, Cont.cell (AV.int IntKind.i64 s)), (0, 2, Cont.cell (AV.int IntKind.i64 0)), (0, 3, Cont.cell (AV.int IntKind.i64 0)), (0, 4, Cont.cell (AV.int IntKind.i64 1)), (0, 5, Cont.cell (AV.int IntKind.i64 0))], 121, 48⟩) (by kernel_rfl) (by kernel_rfl) ?_
        refine cut_normal (()) (wk_go [] rfl (by decide) rfl rfl ⟨⟨_, rfl, rfl⟩, ⟨_, rfl, rfl⟩, ⟨_, rfl, rfl⟩, ⟨_, rfl, ?_⟩, ⟨_, rfl, rfl⟩, trivial⟩)
        rw [hx1]; rfl
      · rw [hc] at hx1
        refine evC_skip ?_
        refine cut_normal (()) (wk_go [] rfl (by decide) rfl rfl ⟨⟨_, rfl, rfl⟩, ⟨_, rfl, rfl⟩, ⟨_, rfl, rfl⟩, ⟨_, rfl, ?_⟩, ⟨_, rfl, rfl⟩, trivial⟩)
        rw [hx1]; rfl
    intro _
    clear hx1
    refine evC_cutTo (ι := Unit) (fun _ => ⟨[(0, 0, Cont.cell (AV.int IntKind.i64 s)), (0, 2, Cont.cell (AV.int IntKind.i64 0)), (0, 3, Cont.cell (AV.int IntKind.i64 0)), (0, 4, .cell (.int .i64 x2)), (0, 5, Cont.cell (AV.int IntKind.i64 0))], 1, 48⟩) ?_ ?_
    · refine evC_go0 (dec := []) (ks := [(0, 0), (0, 2), (0, 3), (0, 4), (0, 5), (0, 25)]) (s' := ⟨[(0, 0, Cont.cell (AV.int IntKind.i64 s)), (0, 2, Cont.cell (AV.int IntKind.i64 0)), (0, 3, Cont.cell (AV.int IntKind.i64 0)), (0, 4, Cont.cell (AV.int IntKind.i64 x1)), (0, 5, Cont.cell (AV.int IntKind.i64 0)), (0, 25, Cont.cell (AV.bool (bif bif s == 3 then true else s == 4 then true else s == 5)))], 81, 48⟩) (by kernel_rfl) (by kernel_rfl) ?_
      refine evC_if (q := bif bif s == 3 then true else s == 4 then true else s == 5) (by kernel_rfl) (fun hc => ?_) (fun hc => ?_)
      · rw [hc] at hx2
        refine evC_goL0 (dec := []) (ks := [(0, 0), (0, 2), (0, 3), (0, 4), (0, 5)]) (s' := ⟨[(0, 0, Cont.cell (AV.int IntKind.i64 s)), (0, 2, Cont.cell (AV.int IntKind.i64 0)), (0, 3, Cont.cell (AV.int IntKind.i64 0)), (0, 4, Cont.cell (AV.int IntKind.i64 (-1))), (0, 5, Cont.cell (AV.int IntKind.i64 0))], 89, 48⟩) (by kernel_rfl) (by kernel_rfl) ?_
        refine cut_normal (()) (wk_go [] rfl (by decide) rfl rfl ⟨⟨_, rfl, rfl⟩, ⟨_, rfl, rfl⟩, ⟨_, rfl, rfl⟩, ⟨_, rfl, ?_⟩, ⟨_, rfl, rfl⟩, trivial⟩)
        rw [hx2]; rfl
      · rw [hc] at hx2
        refine evC_skip ?_
        refine cut_normal (()) (wk_go [] rfl (by decide) rfl rfl ⟨⟨_, rfl, rfl⟩, ⟨_, rfl, rfl⟩, ⟨_, rfl, rfl⟩, ⟨_, rfl, ?_⟩, ⟨_, rfl, rfl⟩, trivial⟩)
        rw [hx2]; rfl
    intro _
    clear hx2
    refine evC_cutTo (ι := Unit) (fun _ => ⟨[(0, 0, Cont.cell (AV.int IntKind.i64 s)), (0, 2, Cont.cell (AV.int IntKind.i64 0)), (0, 3, Cont.cell (AV.int IntKind.i64 0)), (0, 4, Cont.cell (AV.int IntKind.i64 x2)), (0, 5, .cell (.int .i64 y1))], 1, 48⟩) ?_ ?_
    · refine evC_go0 (dec := []) (ks := [(0, 0), (0, 2), (0, 3), (0, 4), (0, 5), (0, 35)]) (s' := ⟨[(0, 0, Cont.cell (AV.int IntKind.i64 s)), (0, 2, Cont.cell (AV.int IntKind.i64 0)), (0, 3, Cont.cell (AV.int IntKind.i64 0)), (0, 4, Cont.cell (AV.int IntKind.i64 x2)), (0, 5, Cont.cell (AV.int IntKind.i64 0)), (0, 35, Cont.cell (AV.bool (bif bif s == 1 then true else s == 2 then true else s == 3)))], 81, 48⟩) (by kernel_rfl) (by kernel_rfl) ?_
      refine evC_if (q := bif bif s == 1 then true else s == 2 then true else s == 3) (by kernel_rfl) (fun hc => ?_) (fun hc => ?_)
      · rw [hc] at hy1
        refine evC_goL0 (dec := []) (ks := [(0, 0), (0, 2), (0, 3), (0, 4), (0, 5)]) (s' := ⟨[(0, 0, Cont.cell (AV.int IntKind.i64 s)), (0, 2, Cont.cell (AV.int IntKind.i64 0)), (0, 3, Cont.cell (AV.int IntKind.i64 0)), (0, 4, Cont.cell (AV.int IntKind.i64 x2)), (0, 5, Cont.cell (AV.int IntKind.i64 1))], 89, 48⟩) (by kernel_rfl) (by kernel_rfl) ?_
        refine cut_normal (()) (wk_go [] rfl (by decide) rfl rfl ⟨⟨_, rfl, rfl⟩, ⟨_, rfl, rfl⟩, ⟨_, rfl, rfl⟩, ⟨_, rfl, rfl⟩, ⟨_, rfl, ?_⟩, trivial⟩)
        rw [hy1]; rfl
      · rw [hc] at hy1
        refine evC_skip ?_
        refine cut_normal (()) (wk_go [] rfl (by decide) rfl rfl ⟨⟨_, rfl, rfl⟩, ⟨_, rfl, rfl⟩, ⟨_, rfl, rfl⟩, ⟨_, rfl, rfl⟩, ⟨_, rfl, ?_⟩, trivial⟩)
        rw [hy1]; rfl
    intro _
    clear hy1
    refine evC_cutTo (ι := Unit) (fun _ => ⟨[(0, 0, Cont.cell (AV.int IntKind.i64 s)), (0, 2, Cont.cell (AV.int IntKind.i64 0)), (0, 3, Cont.cell (AV.int IntKind.i64 0)), (0, 4, Cont.cell (AV.int IntKind.i64 x2)), (0, 5, .cell (.int .i64 y2))], 1, 48⟩) ?_ ?_
    · refine evC_go0 (dec := []) (ks := [(0, 0), (0, 2), (0, 3), (0, 4), (0, 5), (0, 45)]) (s' := ⟨[(0, 0, Cont.cell (AV.int IntKind.i64 s)), (0, 2, Cont.cell (AV.int IntKind.i64 0)), (0, 3, Cont.cell (AV.int IntKind.i64 0)), (0, 4, Cont.cell (AV.int IntKind.i64 x2)), (0, 5, Cont.cell (AV.int IntKind.i64 y1)), (0, 45, Cont.cell (AV.bool (bif bif s == 5 then true else s == 6 then true else s == 7)))], 81, 48⟩) (by kernel_rfl) (by kernel_rfl) ?_
      refine evC_if (q := bif bif s == 5 then true else s == 6 then true else s == 7) (by kernel_rfl) (fun hc => ?_) (fun hc => ?_)
      · rw [hc] at hy2
        refine evC_goL0 (dec := []) (ks := [(0, 0), (0, 2), (0, 3), (0, 4), (0, 5)]) (s' := ⟨[(0, 0, Cont.cell (AV.int IntKind.i64 s)), (0, 2, Cont.cell (AV.int IntKind.i64 0)), (0, 3, Cont.cell (AV.int IntKind.i64 0)), (0, 4, Cont.cell (AV.int IntKind.i64 x2)), (0, 5, Cont.cell (AV.int IntKind.i64 (-1)))], 89, 48⟩) (by kernel_rfl) (by kernel_rfl) ?_
        refine cut_normal (()) (wk_go [] rfl (by decide) rfl rfl ⟨⟨_, rfl, rfl⟩, ⟨_, rfl, rfl⟩, ⟨_, rfl, rfl⟩, ⟨_, rfl, rfl⟩, ⟨_, rfl, ?_⟩, trivial⟩)
        rw [hy2]; rfl
      · rw [hc] at hy2
        refine evC_skip ?_
        refine cut_normal (()) (wk_go [] rfl (by decide) rfl rfl ⟨⟨_, rfl, rfl⟩, ⟨_, rfl, rfl⟩, ⟨_, rfl, rfl⟩, ⟨_, rfl, rfl⟩, ⟨_, rfl, ?_⟩, trivial⟩)
        rw [hy2]; rfl
    intro _
    clear hy2
    refine evC_go0 (dec := []) (ks := [(0, 2), (0, 3)]) (s' := ⟨[(0, 2, Cont.cell (AV.int IntKind.i64 x2)), (0, 3, Cont.cell (AV.int IntKind.i64 y2))], 33, 48⟩) (by kernel_rfl) (by kernel_rfl) ?_
    refine evC_ret ?_
    refine post_ret ?_
    refine ends_flat (vs := [AV.int IntKind.i64 x2, AV.int IntKind.i64 y2]) (Nat.zero_lt_succ _) (by kernel_rfl) (flat_of _ (by kernel_rfl)) rfl ?_
    rfl
  · cases e
/-- The cell to which a step goes; -1: none. -/
def goF (W H : Int) (g : Nat → Bool) (k di dj : Int) : Int := bif opF W H g (k % W + di) (k / W + dj) && opF W H g (k % W + di) (k / W) && opF W H g (k % W) (k / W + dj) then k + dj * W + di else -1
def goR (W H : Int) (g : Nat → Bool) (k : Int) (s : Nat) : Int := bif opF W H g (k % W) (k / W) then goF W H g k (dI s) (dJ s) else -1
theorem cell_split {W H : Int} {n : Nat} (hm : mayL W H n = true) {k : Int} (hk : 0 ≤ k ∧ k < n) : (0 ≤ k % W ∧ k % W < W) ∧ (0 ≤ k / W ∧ k / W < H) ∧ k = W * (k / W) + k % W := by
  obtain ⟨hW, hH, hn, _, _⟩ := may_get hm
  have h1 := Int.emod_nonneg k (by omega : W ≠ 0)
  have h2 := Int.emod_lt_of_pos k (by omega : 0 < W)
  have h3 := Int.ediv_nonneg hk.1 (by omega : 0 ≤ W)
  have h4 : k / W < H := Int.ediv_lt_of_lt_mul (by omega) (by rw [Int.mul_comm]; omega)
  exact ⟨⟨h1, h2⟩, ⟨h3, h4⟩, by have := Int.mul_ediv_add_emod k W; omega⟩
theorem Bf_nB (g : Nat → Bool) : Bf (nB g) = g := rfl
def sGoes : Spec := fun args hr _ => match args with
  | [.agg [.int .i64 W, .int .i64 H, v], .int .i64 k, .agg [.int .i64 di, .int .i64 dj, .int .i64 c]] => match sl 1 hr v with
    | some (n, f, rd) => some ⟨[IsB n f, mayL W H n = true, (0 ≤ k ∧ k < n) ∧ (-1 ≤ di ∧ di ≤ 1) ∧ (-1 ≤ dj ∧ dj ≤ 1)], .int .i64 (goF W H (Bf f) k di dj), rd, []⟩
    | none => none
  | _ => none
theorem goes_ok : SpecOK Try.prog 25 sGoes := by
  refine spec_own (by kernel_rfl) T_ok (sget_cons open_ok sget_nil) Try.func25 rfl rfl fun args hr nb out e => ?_
  unfold sGoes at e
  split at e
  · rename_i W H v k di dj c
    split at e
    · rename_i n f rd hs1
      injection e with e; subst e
      refine ⟨fun x hx => sl_rd hs1 x hx, false, [ld W H n (Bf f), .int .i64 k, .agg [.int .i64 di, .int .i64 dj, .int .i64 c]], rfl, fun hs => ?_⟩
      have h1 := hs _ List.mem_cons_self
      have hm := hs _ (List.mem_cons_of_mem _ List.mem_cons_self)
      obtain ⟨hk, hi, hj⟩ := hs _ (List.mem_cons_of_mem _ (List.mem_cons_of_mem _ List.mem_cons_self))
      refine ⟨land_pass hs1 (fun y hy => ⟨hy, by simp⟩) h1 (.cons _ _ _ _ (.same _ _ (.int _ _)) (.cons _ _ _ _ (.same _ _ (flat_of _ rfl).has) .nil)), ?_⟩
      clear hs h1
      generalize Bf f = g
      obtain ⟨hW, hH, hn, hn1, hn2⟩ := may_get hm
      obtain ⟨c1, c2, c3⟩ := cell_split hm hk
      have i1 := isB n g
      unfold ld
      have bI : ∀ x, -1 ≤ x ∧ x ≤ 1 → IntKind.i64.wrap (k % W + x) = k % W + x := fun x hx => i64_in _ (by omega)
      have bJ : ∀ x, -1 ≤ x ∧ x ≤ 1 → IntKind.i64.wrap (k / W + x) = k / W + x := fun x hx => i64_in _ (by omega)
      have bD : IntKind.i64.wrap (k / W) = k / W := i64_in _ (by omega)
      refine evC_go0 (dec := []) (ks := [(0, 1), (0, 3), (0, 5), (0, 6), (1, 0), (1, 1), (1, 2), (1, 3), (9, 0), (9, 1), (9, 2), (9, 3)]) (s' := ⟨[(0, 1, Cont.cell (AV.int IntKind.i64 k)), (0, 3, Cont.cell (AV.ptr 1 0)), (0, 5, Cont.cell (AV.ptr 9 0)), (0, 6, Cont.cell (AV.int IntKind.i64 0)), (1, 0, Cont.cell (AV.int IntKind.i64 W)), (1, 1, Cont.cell (AV.int IntKind.i64 H)), (1, 2, Cont.cell (AV.rs 1 n false (nB g))), (1, 3, Cont.top), (9, 0, Cont.cell (AV.int IntKind.i64 di)), (9, 1, Cont.cell (AV.int IntKind.i64 dj)), (9, 2, Cont.cell (AV.int IntKind.i64 c)), (9, 3, Cont.top)], 25, 58⟩) (by kernel_rfl) (by kernel_rfl) ?_
      refine evC_go (dec := []) (ks := [(0, 1), (0, 3), (0, 5), (0, 6), (0, 7), (0, 8), (1, 0), (1, 1), (1, 2), (1, 3), (9, 0), (9, 1), (9, 2), (9, 3)]) (ps := [W ≠ (0 : Int), W ≠ (0 : Int)]) (s' := ⟨[(0, 1, Cont.cell (AV.int IntKind.i64 k)), (0, 3, Cont.cell (AV.ptr 1 0)), (0, 5, Cont.cell (AV.ptr 9 0)), (0, 6, Cont.cell (AV.int IntKind.i64 0)), (0, 7, Cont.cell (AV.int IntKind.i64 (Int.tmod k W))), (0, 8, Cont.cell (AV.int IntKind.i64 (IntKind.i64.wrap (Int.tdiv k W)))), (1, 0, Cont.cell (AV.int IntKind.i64 W)), (1, 1, Cont.cell (AV.int IntKind.i64 H)), (1, 2, Cont.cell (AV.rs 1 n false (nB g))), (1, 3, Cont.top), (9, 0, Cont.cell (AV.int IntKind.i64 di)), (9, 1, Cont.cell (AV.int IntKind.i64 dj)), (9, 2, Cont.cell (AV.int IntKind.i64 c)), (9, 3, Cont.top)], 105, 58⟩) (by kernel_rfl) (by kernel_rfl) ?_ ?_
      · have hW0 : W ≠ 0 := by omega
        exact ⟨hW0, hW0⟩
      rw [Int.tmod_eq_emod_of_nonneg hk.1, Int.tdiv_eq_ediv_of_nonneg hk.1, bD]
      refine evC_seq ?_
      refine evC_go (dec := []) (ks := [(0, 1), (0, 3), (0, 5), (0, 6), (0, 47), (1, 0), (1, 1), (1, 2), (1, 3), (9, 0), (9, 1), (9, 2), (9, 3)]) (ps := [IsB n (nB g), mayL W H n = true, List.all [!!opF W H (Bf (nB g)) (IntKind.i64.wrap (k % W + di)) (IntKind.i64.wrap (k / W + dj))] id = true → IsB n (nB g), List.all [!!opF W H (Bf (nB g)) (IntKind.i64.wrap (k % W + di)) (IntKind.i64.wrap (k / W + dj))] id = true → mayL W H n = true, List.all [!bif !opF W H (Bf (nB g)) (IntKind.i64.wrap (k % W + di)) (IntKind.i64.wrap (k / W + dj)) then true else !opF W H (Bf (nB g)) (IntKind.i64.wrap (k % W + di)) (k / W)] id = true → IsB n (nB g), List.all [!bif !opF W H (Bf (nB g)) (IntKind.i64.wrap (k % W + di)) (IntKind.i64.wrap (k / W + dj)) then true else !opF W H (Bf (nB g)) (IntKind.i64.wrap (k % W + di)) (k / W)] id = true → mayL W H n = true]) (s' := ⟨[(0, 1, Cont.cell (AV.int IntKind.i64 k)), (0, 3, Cont.cell (AV.ptr 1 0)), (0, 5, Cont.cell (AV.ptr 9 0)), (0, 6, Cont.cell (AV.int IntKind.i64 0)), (0, 47, Cont.cell (AV.bool (bif bif !opF W H (Bf (nB g)) (IntKind.i64.wrap (k % W + di)) (IntKind.i64.wrap (k / W + dj)) then true else !opF W H (Bf (nB g)) (IntKind.i64.wrap (k % W + di)) (k / W) then true else !opF W H (Bf (nB g)) (k % W) (IntKind.i64.wrap (k / W + dj))))), (1, 0, Cont.cell (AV.int IntKind.i64 W)), (1, 1, Cont.cell (AV.int IntKind.i64 H)), (1, 2, Cont.cell (AV.rs 1 n false (nB g))), (1, 3, Cont.top), (9, 0, Cont.cell (AV.int IntKind.i64 di)), (9, 1, Cont.cell (AV.int IntKind.i64 dj)), (9, 2, Cont.cell (AV.int IntKind.i64 c)), (9, 3, Cont.top)], 353, 58⟩) (by kernel_rfl) (by kernel_rfl) ?_ ?_
      · simp only [All]
        repeat' apply And.intro
        all_goals first | exact i1 | exact hm | (intro _; first | exact i1 | exact hm)
      rw [bI di hi, bJ dj hj, Bf_nB]
      refine evC_if (q := bif bif !opF W H g (k % W + di) (k / W + dj) then true else !opF W H g (k % W + di) (k / W) then true else !opF W H g (k % W) (k / W + dj)) (by kernel_rfl) (fun hc => ?_) (fun hc => ?_)
      · have hz : goF W H g k di dj = -1 := by
          unfold goF
          cases a : opF W H g (k % W + di) (k / W + dj) <;> cases b : opF W H g (k % W + di) (k / W) <;> cases d : opF W H g (k % W) (k / W + dj) <;> simp [a, b, d] at hc ⊢
        rw [hz]
        refine evC_go0 (dec := []) (ks := [(0, 1), (0, 3), (0, 5), (0, 6), (1, 0), (1, 1), (1, 2), (1, 3), (9, 0), (9, 1), (9, 2), (9, 3)]) (s' := ⟨[(0, 1, Cont.cell (AV.int IntKind.i64 k)), (0, 3, Cont.cell (AV.ptr 1 0)), (0, 5, Cont.cell (AV.ptr 9 0)), (0, 6, Cont.cell (AV.int IntKind.i64 (-1))), (1, 0, Cont.cell (AV.int IntKind.i64 W)), (1, 1, Cont.cell (AV.int IntKind.i64 H)), (1, 2, Cont.cell (AV.rs 1 n false (nB g))), (1, 3, Cont.top), (9, 0, Cont.cell (AV.int IntKind.i64 di)), (9, 1, Cont.cell (AV.int IntKind.i64 dj)), (9, 2, Cont.cell (AV.int IntKind.i64 c)), (9, 3, Cont.top)], 361, 58⟩) (by kernel_rfl) (by kernel_rfl) ?_
        refine evC_ret ?_
        refine then_ret ?_
        refine post_ret ?_
        refine ends_flat (vs := [AV.int IntKind.i64 (-1)]) (Nat.zero_lt_succ _) (by kernel_rfl) (flat_of _ (by kernel_rfl)) rfl ?_
        rfl
      · have hz : goF W H g k di dj = k + dj * W + di := by
          unfold goF
          cases a : opF W H g (k % W + di) (k / W + dj) <;> cases b : opF W H g (k % W + di) (k / W) <;> cases d : opF W H g (k % W) (k / W + dj) <;> simp [a, b, d] at hc ⊢
        rw [hz]
        have hb : -64 ≤ dj * W ∧ dj * W ≤ 64 := by
          rcases (by omega : dj = -1 ∨ dj = 0 ∨ dj = 1) with rfl | rfl | rfl <;> omega
        refine evC_skip ?_
        refine then_normal ?_
        refine evC_go0 (dec := []) (ks := [(0, 6)]) (s' := ⟨[(0, 6, Cont.cell (AV.int IntKind.i64 (IntKind.i64.wrap (IntKind.i64.wrap (k + IntKind.i64.wrap (dj * W)) + di))))], 441, 58⟩) (by kernel_rfl) (by kernel_rfl) ?_
        refine evC_ret ?_
        refine post_ret ?_
        refine ends_flat (vs := [AV.int IntKind.i64 (IntKind.i64.wrap (IntKind.i64.wrap (k + IntKind.i64.wrap (dj * W)) + di))]) (Nat.zero_lt_succ _) (by kernel_rfl) (flat_of _ (by kernel_rfl)) rfl ?_
        rw [i64_in (dj * W) (by omega), i64_in (k + dj * W) (by omega), i64_in (k + dj * W + di) (by omega)]
        rfl
    · cases e
  · cases e
theorem odd_go {W H : Int} {g : Nat → Bool} {k : Int} {s : Nat} (hs : s < 8) (h0 : opF W H g (k % W) (k / W) = true) :
    goF W H g k (dI s) (dJ s) = bif opF W H g (k % W + dI s) (k / W + dJ s) && (!((s : Int) % 2 == 1) || (opF W H g (k % W + dI s) (k / W) && opF W H g (k % W) (k / W + dJ s))) then k + dJ s * W + dI s else -1 := by
  unfold goF
  rcases (by omega : s = 0 ∨ s = 1 ∨ s = 2 ∨ s = 3 ∨ s = 4 ∨ s = 5 ∨ s = 6 ∨ s = 7) with rfl | rfl | rfl | rfl | rfl | rfl | rfl | rfl
  all_goals simp [dI, dJ, h0, Bool.and_assoc]
def sRgoes : Spec := fun args hr _ => match args with
  | [.agg [.int .i64 W, .int .i64 H, v], .int .i64 k, .int .i64 s] => match sl 1 hr v with
    | some (n, f, rd) => some ⟨[IsB n f, mayL W H n = true, (0 ≤ k ∧ k < n) ∧ 0 ≤ s ∧ s < 8], .int .i64 (goR W H (Bf f) k s.toNat), rd, []⟩
    | none => none
  | _ => none
theorem rgoes_ok : SpecOK Try.prog 17 sRgoes := by
  refine spec_own (by kernel_rfl) T_ok (sget_cons is_ok (sget_cons way_ok sget_nil)) Try.func17 rfl rfl fun args hr nb out e => ?_
  unfold sRgoes at e
  split at e
  · rename_i W H v k s
    split at e
    · rename_i n f rd hs1
      injection e with e; subst e
      refine ⟨fun x hx => sl_rd hs1 x hx, false, [ld W H n (Bf f), .int .i64 k, .int .i64 s], rfl, fun hs => ?_⟩
      have h1 := hs _ List.mem_cons_self
      have hm := hs _ (List.mem_cons_of_mem _ List.mem_cons_self)
      obtain ⟨hk, hs0, hs8⟩ := hs _ (List.mem_cons_of_mem _ (List.mem_cons_of_mem _ List.mem_cons_self))
      refine ⟨land_pass hs1 (fun y hy => ⟨hy, by simp⟩) h1 (.cons _ _ _ _ (.same _ _ (.int _ _)) (.cons _ _ _ _ (.same _ _ (.int _ _)) .nil)), ?_⟩
      clear hs h1
      generalize Bf f = g
      obtain ⟨hW, hH, hn, hn1, hn2⟩ := may_get hm
      obtain ⟨c1, c2, c3⟩ := cell_split hm hk
      have i1 := isB n g
      obtain ⟨s, rfl⟩ := Int.eq_ofNat_of_zero_le hs0
      rw [show Int.toNat (s : Int) = s from Int.toNat_natCast s]
      have hs8 : s < 8 := by omega
      obtain ⟨hi, hj⟩ := d_rng hs8
      have bI : ∀ x, -1 ≤ x ∧ x ≤ 1 → IntKind.i64.wrap (k % W + x) = k % W + x := fun x hx => i64_in _ (by omega)
      have bJ : ∀ x, -1 ≤ x ∧ x ≤ 1 → IntKind.i64.wrap (k / W + x) = k / W + x := fun x hx => i64_in _ (by omega)
      have bD : IntKind.i64.wrap (k / W) = k / W := i64_in _ (by omega)
      unfold ld
      refine evC_go0 (dec := []) (ks := [(0, 1), (0, 2), (0, 3), (0, 6), (1, 0), (1, 1), (1, 2), (1, 3)]) (s' := ⟨[(0, 1, Cont.cell (AV.int IntKind.i64 k)), (0, 2, Cont.cell (AV.int IntKind.i64 (↑s : Int))), (0, 3, Cont.cell (AV.ptr 1 0)), (0, 6, Cont.cell (AV.int IntKind.i64 0)), (1, 0, Cont.cell (AV.int IntKind.i64 W)), (1, 1, Cont.cell (AV.int IntKind.i64 H)), (1, 2, Cont.cell (AV.rs 1 n false (nB g))), (1, 3, Cont.top)], 17, 71⟩) (by kernel_rfl) (by kernel_rfl) ?_
      refine evC_go (dec := []) (ks := [(0, 1), (0, 2), (0, 3), (0, 6), (0, 7), (0, 8), (1, 0), (1, 1), (1, 2), (1, 3)]) (ps := [(0 : Int) ≤ (↑s : Int) ∧ (↑s : Int) < (8 : Int)]) (s' := ⟨[(0, 1, Cont.cell (AV.int IntKind.i64 k)), (0, 2, Cont.cell (AV.int IntKind.i64 (↑s : Int))), (0, 3, Cont.cell (AV.ptr 1 0)), (0, 6, Cont.cell (AV.int IntKind.i64 0)), (0, 7, Cont.cell (AV.int IntKind.i64 (dI s))), (0, 8, Cont.cell (AV.int IntKind.i64 (dJ s))), (1, 0, Cont.cell (AV.int IntKind.i64 W)), (1, 1, Cont.cell (AV.int IntKind.i64 H)), (1, 2, Cont.cell (AV.rs 1 n false (nB g))), (1, 3, Cont.top)], 73, 71⟩) (by kernel_rfl) (by kernel_rfl) ?_ ?_
      · (simp only [All]; (repeat' apply And.intro) <;> (try intro _) <;> (try intro _) <;> (repeat' apply And.intro) <;> (try intro _) <;> (try intro _) <;> first | trivial | assumption | exact .inr trivial | exact .inr rfl | omega | rfl | exact ⟨_, rfl, rfl⟩ | exact ⟨rfl, rfl⟩ | exact ⟨fun _ => rfl, fun _ => rfl⟩ | (unfold maxLen; omega) | (unfold i64R; first | omega | decide) | decide)
      refine evC_go (dec := []) (ks := [(0, 2), (0, 3), (0, 6), (0, 7), (0, 8), (0, 9), (0, 10), (1, 0), (1, 1), (1, 2), (1, 3)]) (ps := [W ≠ (0 : Int), W ≠ (0 : Int)]) (s' := ⟨[(0, 2, Cont.cell (AV.int IntKind.i64 (↑s : Int))), (0, 3, Cont.cell (AV.ptr 1 0)), (0, 6, Cont.cell (AV.int IntKind.i64 0)), (0, 7, Cont.cell (AV.int IntKind.i64 (dI s))), (0, 8, Cont.cell (AV.int IntKind.i64 (dJ s))), (0, 9, Cont.cell (AV.int IntKind.i64 (Int.tmod k W))), (0, 10, Cont.cell (AV.int IntKind.i64 (IntKind.i64.wrap (Int.tdiv k W)))), (1, 0, Cont.cell (AV.int IntKind.i64 W)), (1, 1, Cont.cell (AV.int IntKind.i64 H)), (1, 2, Cont.cell (AV.rs 1 n false (nB g))), (1, 3, Cont.top)], 153, 71⟩) (by kernel_rfl) (by kernel_rfl) ?_ ?_
      · have hW0 : W ≠ 0 := by omega
        exact ⟨hW0, hW0⟩
      rw [Int.tmod_eq_emod_of_nonneg hk.1, Int.tdiv_eq_ediv_of_nonneg hk.1, bD]
      refine evC_seq ?_
      refine evC_go (dec := []) (ks := [(0, 2), (0, 3), (0, 6), (0, 7), (0, 8), (0, 9), (0, 10), (0, 39), (1, 0), (1, 1), (1, 2), (1, 3)]) (ps := [IsB n (nB g), mayL W H n = true, List.all [!!opF W H (Bf (nB g)) (k % W) (k / W)] id = true → IsB n (nB g), List.all [!!opF W H (Bf (nB g)) (k % W) (k / W)] id = true → mayL W H n = true]) (s' := ⟨[(0, 2, Cont.cell (AV.int IntKind.i64 (↑s : Int))), (0, 3, Cont.cell (AV.ptr 1 0)), (0, 6, Cont.cell (AV.int IntKind.i64 0)), (0, 7, Cont.cell (AV.int IntKind.i64 (dI s))), (0, 8, Cont.cell (AV.int IntKind.i64 (dJ s))), (0, 9, Cont.cell (AV.int IntKind.i64 (k % W))), (0, 10, Cont.cell (AV.int IntKind.i64 (k / W))), (0, 39, Cont.cell (AV.bool (bif !opF W H (Bf (nB g)) (k % W) (k / W) then true else !opF W H (Bf (nB g)) (IntKind.i64.wrap (k % W + dI s)) (IntKind.i64.wrap (k / W + dJ s))))), (1, 0, Cont.cell (AV.int IntKind.i64 W)), (1, 1, Cont.cell (AV.int IntKind.i64 H)), (1, 2, Cont.cell (AV.rs 1 n false (nB g))), (1, 3, Cont.top)], 281, 71⟩) (by kernel_rfl) (by kernel_rfl) ?_ ?_
      · simp only [All]
        repeat' apply And.intro
        all_goals first | exact i1 | exact hm | (intro _; first | exact i1 | exact hm)
      have hR : goR W H g k s = bif opF W H g (k % W) (k / W) then (bif opF W H g (k % W + dI s) (k / W + dJ s) && (!((s : Int) % 2 == 1) || (opF W H g (k % W + dI s) (k / W) && opF W H g (k % W) (k / W + dJ s))) then k + dJ s * W + dI s else -1) else -1 := by
        unfold goR
        cases h0 : opF W H g (k % W) (k / W) with
        | false => rfl
        | true => rw [odd_go hs8 h0]
      rw [bI _ hi, bJ _ hj, Bf_nB, hR]
      clear hR
      generalize hA : opF W H g (k % W) (k / W) = A
      generalize hB : opF W H g (k % W + dI s) (k / W + dJ s) = B
      refine evC_if (q := bif !A then true else !B) (by kernel_rfl) (fun hc => ?_) (fun hc => ?_)
      · have hz : (bif A then (bif B && (!((s : Int) % 2 == 1) || (opF W H g (k % W + dI s) (k / W) && opF W H g (k % W) (k / W + dJ s))) then k + dJ s * W + dI s else -1) else -1) = -1 := by
          cases A <;> cases B <;> simp at hc ⊢
        rw [hz]
        refine evC_go0 (dec := []) (ks := [(0, 2), (0, 3), (0, 6), (0, 7), (0, 8), (0, 9), (0, 10), (1, 0), (1, 1), (1, 2), (1, 3)]) (s' := ⟨[(0, 2, Cont.cell (AV.int IntKind.i64 (↑s : Int))), (0, 3, Cont.cell (AV.ptr 1 0)), (0, 6, Cont.cell (AV.int IntKind.i64 (-1))), (0, 7, Cont.cell (AV.int IntKind.i64 (dI s))), (0, 8, Cont.cell (AV.int IntKind.i64 (dJ s))), (0, 9, Cont.cell (AV.int IntKind.i64 (k % W))), (0, 10, Cont.cell (AV.int IntKind.i64 (k / W))), (1, 0, Cont.cell (AV.int IntKind.i64 W)), (1, 1, Cont.cell (AV.int IntKind.i64 H)), (1, 2, Cont.cell (AV.rs 1 n false (nB g))), (1, 3, Cont.top)], 289, 71⟩) (by kernel_rfl) (by kernel_rfl) ?_
        refine evC_ret ?_
        refine then_ret ?_
        refine post_ret ?_
        refine ends_flat (vs := [AV.int IntKind.i64 (-1)]) (Nat.zero_lt_succ _) (by kernel_rfl) (flat_of _ (by kernel_rfl)) rfl ?_
        rfl
      · have hAB : A = true ∧ B = true := by cases A <;> cases B <;> simp at hc ⊢
        obtain ⟨rfl, rfl⟩ := hAB
        clear hc
        simp only [cond_true, Bool.true_and]
        have em : IntKind.i64.wrap ((s : Int).tmod 2) = (s : Int) % 2 := by
          rw [Int.tmod_eq_emod_of_nonneg (by omega), i64_in _ (by omega)]
        have em2 : (s : Int).tmod 2 = (s : Int) % 2 := Int.tmod_eq_emod_of_nonneg (by omega)
        refine evC_skip ?_
        refine then_normal ?_
        refine evC_seq ?_
        refine evC_go (dec := []) (ks := [(0, 3), (0, 6), (0, 7), (0, 8), (0, 9), (0, 10), (0, 60), (1, 0), (1, 1), (1, 2), (1, 3)]) (ps := [(2 : Int) ≠ (0 : Int), List.all [Int.tmod (↑s : Int) (2 : Int) == (1 : Int)] id = true → IsB n (nB g), List.all [Int.tmod (↑s : Int) (2 : Int) == (1 : Int)] id = true → mayL W H n = true, List.all [!!opF W H (Bf (nB g)) (IntKind.i64.wrap (k % W + dI s)) (k / W), Int.tmod (↑s : Int) (2 : Int) == (1 : Int)] id = true → IsB n (nB g), List.all [!!opF W H (Bf (nB g)) (IntKind.i64.wrap (k % W + dI s)) (k / W), Int.tmod (↑s : Int) (2 : Int) == (1 : Int)] id = true → mayL W H n = true]) (s' := ⟨[(0, 3, Cont.cell (AV.ptr 1 0)), (0, 6, Cont.cell (AV.int IntKind.i64 0)), (0, 7, Cont.cell (AV.int IntKind.i64 (dI s))), (0, 8, Cont.cell (AV.int IntKind.i64 (dJ s))), (0, 9, Cont.cell (AV.int IntKind.i64 (k % W))), (0, 10, Cont.cell (AV.int IntKind.i64 (k / W))), (0, 60, Cont.cell (AV.bool (bif Int.tmod (↑s : Int) 2 == 1 then bif !opF W H (Bf (nB g)) (IntKind.i64.wrap (k % W + dI s)) (k / W) then true else !opF W H (Bf (nB g)) (k % W) (IntKind.i64.wrap (k / W + dJ s)) else false))), (1, 0, Cont.cell (AV.int IntKind.i64 W)), (1, 1, Cont.cell (AV.int IntKind.i64 H)), (1, 2, Cont.cell (AV.rs 1 n false (nB g))), (1, 3, Cont.top)], 449, 71⟩) (by kernel_rfl) (by kernel_rfl) ?_ ?_
        · simp only [All]
          repeat' apply And.intro
          all_goals first | exact i1 | exact hm | (intro _; first | exact i1 | exact hm) | decide
        rw [em2, bI _ hi, bJ _ hj, Bf_nB]
        generalize hP : ((s : Int) % 2 == 1) = Q
        generalize hC : opF W H g (k % W + dI s) (k / W) = C
        generalize hD : opF W H g (k % W) (k / W + dJ s) = D
        refine evC_if (q := bif Q then bif !C then true else !D else false) (by kernel_rfl) (fun hc => ?_) (fun hc => ?_)
        · have hz : (bif !Q || (C && D) then k + dJ s * W + dI s else -1) = -1 := by
            cases Q <;> cases C <;> cases D <;> simp at hc ⊢
          rw [hz]
          refine evC_go0 (dec := []) (ks := [(0, 3), (0, 6), (0, 7), (0, 8), (0, 9), (0, 10), (1, 0), (1, 1), (1, 2), (1, 3)]) (s' := ⟨[(0, 3, Cont.cell (AV.ptr 1 0)), (0, 6, Cont.cell (AV.int IntKind.i64 (-1))), (0, 7, Cont.cell (AV.int IntKind.i64 (dI s))), (0, 8, Cont.cell (AV.int IntKind.i64 (dJ s))), (0, 9, Cont.cell (AV.int IntKind.i64 (k % W))), (0, 10, Cont.cell (AV.int IntKind.i64 (k / W))), (1, 0, Cont.cell (AV.int IntKind.i64 W)), (1, 1, Cont.cell (AV.int IntKind.i64 H)), (1, 2, Cont.cell (AV.rs 1 n false (nB g))), (1, 3, Cont.top)], 457, 71⟩) (by kernel_rfl) (by kernel_rfl) ?_
          refine evC_ret ?_
          refine then_ret ?_
          refine post_ret ?_
          refine ends_flat (vs := [AV.int IntKind.i64 (-1)]) (Nat.zero_lt_succ _) (by kernel_rfl) (flat_of _ (by kernel_rfl)) rfl ?_
          rfl
        · have hz : (bif !Q || (C && D) then k + dJ s * W + dI s else -1) = k + dJ s * W + dI s := by
            cases Q <;> cases C <;> cases D <;> simp at hc ⊢
          rw [hz]
          have hb : -64 ≤ dJ s * W ∧ dJ s * W ≤ 64 := by
            rcases (by omega : dJ s = -1 ∨ dJ s = 0 ∨ dJ s = 1) with h | h | h <;> rw [h] <;> omega
          have e1 : W * (k / W + dJ s) = W * (k / W) + dJ s * W := by rw [Int.mul_add, Int.mul_comm W (dJ s)]
          have hb2 : 0 ≤ W * (k / W) := Int.mul_nonneg (by omega) c2.1
          refine evC_skip ?_
          refine then_normal ?_
          refine evC_go0 (dec := []) (ks := [(0, 6)]) (s' := ⟨[(0, 6, Cont.cell (AV.int IntKind.i64 (IntKind.i64.wrap (IntKind.i64.wrap (IntKind.i64.wrap (W * IntKind.i64.wrap (k / W + dJ s)) + k % W) + dI s))))], 537, 71⟩) (by kernel_rfl) (by kernel_rfl) ?_
          rw [bJ _ hj]
          rw [i64_in (W * (k / W + dJ s)) (by rw [e1]; omega), i64_in (W * (k / W + dJ s) + k % W) (by rw [e1]; omega), i64_in (W * (k / W + dJ s) + k % W + dI s) (by rw [e1]; omega)]
          have e2 : W * (k / W + dJ s) + k % W + dI s = k + dJ s * W + dI s := by rw [e1]; omega
          rw [e2]
          refine evC_ret ?_
          refine post_ret ?_
          refine ends_flat (vs := [AV.int IntKind.i64 (k + dJ s * W + dI s)]) (Nat.zero_lt_succ _) (by kernel_rfl) (flat_of _ (by kernel_rfl)) rfl ?_
          rfl
    · cases e
  · cases e
end Go.Eng.S13
