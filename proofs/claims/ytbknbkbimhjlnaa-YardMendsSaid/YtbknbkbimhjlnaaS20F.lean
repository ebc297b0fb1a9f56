/- Seat 20: the law YardMends, walked: what each computes, for every argument that its contract names. -/
import Derived.Test.YtbknbkbimhjlnaaEngU
import Derived.Test.YtbknbkbimhjlnaaS20E
import Derived.OpenShut
set_option linter.unusedSimpArgs false
set_option linter.unusedVariables false
namespace Go.Eng.S20
open Go.Proofs Go.IntWalk
set_option maxRecDepth 10000

def i64R (x : Int) : Prop := -9223372036854775808 ≤ x ∧ x ≤ 9223372036854775807
def sYardMends : Spec := fun args _ _ => match args with
  | [.int .i64 h, .int .i64 most, .int .i64 p] => some ⟨[i64R h, i64R most, i64R p], .bool true, [], []⟩
  | _ => none

theorem yardMends_ok : SpecOK Try.prog 4 sYardMends := by
  refine spec_own (by kernel_rfl) T_ok (sget_cons mend_ok (sget_cons reclaim_ok (sget_cons power_ok (sget_cons awake_ok sget_nil)))) Try.func4 rfl rfl fun args hr nb out e => ?_
  unfold sYardMends at e
  split at e
  · rename_i h most p
    injection e with e; subst e
    refine ⟨(fun _ h => nomatch h), true, [.int .i64 h, .int .i64 most, .int .i64 p], rfl, fun hs => ⟨.cons _ _ _ _ (.same _ _ (flat_of _ rfl).has) (.cons _ _ _ _ (.same _ _ (flat_of _ rfl).has) (.cons _ _ _ _ (.same _ _ (flat_of _ rfl).has) .nil)), ?_⟩⟩
    have r1 : i64R h := hs _ (by simp)
    have r2 : i64R most := hs _ (by simp)
    have r3 : i64R p := hs _ (by simp)
    have m1 : mokF h most p = (inR 1 9999 most && inR 0 most h && inR 0 16320 p) := rfl
    refine evC_go0 (dec := []) (ks := [(0, 0), (0, 1), (0, 2), (0, 6)]) (s' := ⟨[(0, 0, Cont.cell (AV.int IntKind.i64 h)), (0, 1, Cont.cell (AV.int IntKind.i64 most)), (0, 2, Cont.cell (AV.int IntKind.i64 p)), (0, 6, Cont.cell (AV.bool false))], 9, 117⟩) (by kernel_rfl) (by kernel_rfl) ?_
    refine evC_go0 (dec := []) (ks := [(0, 0), (0, 1), (0, 2), (0, 6), (0, 7), (0, 8)]) (s' := ⟨[(0, 0, Cont.cell (AV.int IntKind.i64 h)), (0, 1, Cont.cell (AV.int IntKind.i64 most)), (0, 2, Cont.cell (AV.int IntKind.i64 p)), (0, 6, Cont.cell (AV.bool false)), (0, 7, Cont.cell (AV.int IntKind.i64 (mendF h most p))), (0, 8, Cont.cell (AV.int IntKind.i64 (errF (mokF h most p))))], 81, 117⟩) (by kernel_rfl) (by kernel_rfl) ?_
    refine evC_go0 (dec := []) (ks := [(0, 0), (0, 1), (0, 2), (0, 6), (0, 7), (0, 8), (0, 9), (0, 10), (0, 11)]) (s' := ⟨[(0, 0, Cont.cell (AV.int IntKind.i64 h)), (0, 1, Cont.cell (AV.int IntKind.i64 most)), (0, 2, Cont.cell (AV.int IntKind.i64 p)), (0, 6, Cont.cell (AV.bool false)), (0, 7, Cont.cell (AV.int IntKind.i64 (mendF h most p))), (0, 8, Cont.cell (AV.int IntKind.i64 (errF (mokF h most p)))), (0, 9, Cont.cell (AV.int IntKind.i64 (bif rokF h p then mn2 h p else 0))), (0, 10, Cont.cell (AV.int IntKind.i64 (bif rokF h p then IntKind.i64.wrap (h - mn2 h p) else 0))), (0, 11, Cont.cell (AV.int IntKind.i64 (errF (rokF h p))))], 161, 117⟩) (by kernel_rfl) (by kernel_rfl) ?_
    refine evC_cutTo (fun _ : Unit => ⟨[(0, 0, .cell (.int .i64 h)), (0, 1, .cell (.int .i64 most)), (0, 2, .cell (.int .i64 p)), (0, 6, .cell (.bool false)),
      (0, 9, .cell (.int .i64 (bif rokF h p then mn2 h p else 0))), (0, 10, .cell (.int .i64 (bif rokF h p then IntKind.i64.wrap (h - mn2 h p) else 0))), (0, 11, .cell (.int .i64 (errF (rokF h p))))], 1, 117⟩) ?_ fun _ => ?_
    · refine evC_go0 (dec := []) (ks := [(0, 0), (0, 1), (0, 2), (0, 6), (0, 7), (0, 8), (0, 9), (0, 10), (0, 11), (0, 46)]) (s' := ⟨[(0, 0, Cont.cell (AV.int IntKind.i64 h)), (0, 1, Cont.cell (AV.int IntKind.i64 most)), (0, 2, Cont.cell (AV.int IntKind.i64 p)), (0, 6, Cont.cell (AV.bool false)), (0, 7, Cont.cell (AV.int IntKind.i64 (mendF h most p))), (0, 8, Cont.cell (AV.int IntKind.i64 (errF (mokF h most p)))), (0, 9, Cont.cell (AV.int IntKind.i64 (bif rokF h p then mn2 h p else 0))), (0, 10, Cont.cell (AV.int IntKind.i64 (bif rokF h p then IntKind.i64.wrap (h - mn2 h p) else 0))), (0, 11, Cont.cell (AV.int IntKind.i64 (errF (rokF h p)))), (0, 46, Cont.cell (AV.bool (bif bif bif bif !inR 0 16320 p then true else decide (most < 1) then true else decide (most > 9999) then true else decide (h < 0) then true else decide (h > most))))], 321, 117⟩) (by kernel_rfl) (by kernel_rfl) ?_
      refine evC_if (q := bif bif bif bif !inR 0 16320 p then true else decide (most < 1) then true else decide (most > 9999) then true else decide (h < 0) then true else decide (h > most)) (by kernel_rfl) (fun hc => ?_) (fun hc => ?_)
      · have hm : mokF h most p = false := by
          have a1 : decide (most < 1) = !decide (1 ≤ most) := by by_cases q : most < 1 <;> simp [q] <;> omega
          have a2 : decide (most > 9999) = !decide (most ≤ 9999) := by by_cases q : most > 9999 <;> simp [q] <;> omega
          have a3 : decide (h < 0) = !decide (0 ≤ h) := by by_cases q : h < 0 <;> simp [q] <;> omega
          have a4 : decide (h > most) = !decide (h ≤ most) := by by_cases q : h > most <;> simp [q] <;> omega
          rw [a1, a2, a3, a4] at hc
          rw [m1]
          simp only [inR] at hc ⊢
          revert hc
          cases decide (1 ≤ most) <;> cases decide (most ≤ 9999) <;> cases decide (0 ≤ h) <;> cases decide (h ≤ most) <;> cases decide (0 ≤ p) <;> cases decide (p ≤ 16320) <;> simp
        clear hc
        refine evC_go0 (dec := []) (ks := [(0, 0), (0, 1), (0, 2), (0, 6), (0, 9), (0, 10), (0, 11), (0, 52)]) (s' := ⟨[(0, 0, Cont.cell (AV.int IntKind.i64 h)), (0, 1, Cont.cell (AV.int IntKind.i64 most)), (0, 2, Cont.cell (AV.int IntKind.i64 p)), (0, 6, Cont.cell (AV.bool false)), (0, 9, Cont.cell (AV.int IntKind.i64 (bif rokF h p then mn2 h p else 0))), (0, 10, Cont.cell (AV.int IntKind.i64 (bif rokF h p then IntKind.i64.wrap (h - mn2 h p) else 0))), (0, 11, Cont.cell (AV.int IntKind.i64 (errF (rokF h p)))), (0, 52, Cont.cell (AV.bool (bif mendF h most p != 0 then true else errF (mokF h most p) != 1)))], 369, 117⟩) (by kernel_rfl) (by kernel_rfl) ?_
        refine evC_if (q := bif mendF h most p != 0 then true else errF (mokF h most p) != 1) (by kernel_rfl) (fun hc => ?_) (fun hc => ?_)
        · simp [mendF, hm, errF] at hc
        · refine evC_skip ?_
          exact cut_normal () (wk_flat rfl rfl rfl (by kernel_rfl) (fun π => by kernel_rfl))
      · have hm : mokF h most p = true := by
          have a1 : decide (most < 1) = !decide (1 ≤ most) := by by_cases q : most < 1 <;> simp [q] <;> omega
          have a2 : decide (most > 9999) = !decide (most ≤ 9999) := by by_cases q : most > 9999 <;> simp [q] <;> omega
          have a3 : decide (h < 0) = !decide (0 ≤ h) := by by_cases q : h < 0 <;> simp [q] <;> omega
          have a4 : decide (h > most) = !decide (h ≤ most) := by by_cases q : h > most <;> simp [q] <;> omega
          rw [a1, a2, a3, a4] at hc
          rw [m1]
          simp only [inR] at hc ⊢
          revert hc
          cases decide (1 ≤ most) <;> cases decide (most ≤ 9999) <;> cases decide (0 ≤ h) <;> cases decide (h ≤ most) <;> cases decide (0 ≤ p) <;> cases decide (p ≤ 16320) <;> simp
        have hm2 := hm
        simp [mokF, inR] at hm2
        have hw : IntKind.i64.wrap (h + p) = h + p := i64_in _ (by omega)
        have hv : mendF h most p = (if most < h + p then most else h + p) := by
          simp only [mendF, hm, cond_true, hw, clampF, mn2]
          rw [if_neg (by omega)]
        clear hc
        refine evC_go0 (dec := []) (ks := [(0, 0), (0, 1), (0, 2), (0, 6), (0, 7), (0, 8), (0, 9), (0, 10), (0, 11), (0, 12)]) (s' := ⟨[(0, 0, Cont.cell (AV.int IntKind.i64 h)), (0, 1, Cont.cell (AV.int IntKind.i64 most)), (0, 2, Cont.cell (AV.int IntKind.i64 p)), (0, 6, Cont.cell (AV.bool false)), (0, 7, Cont.cell (AV.int IntKind.i64 (mendF h most p))), (0, 8, Cont.cell (AV.int IntKind.i64 (errF (mokF h most p)))), (0, 9, Cont.cell (AV.int IntKind.i64 (bif rokF h p then mn2 h p else 0))), (0, 10, Cont.cell (AV.int IntKind.i64 (bif rokF h p then IntKind.i64.wrap (h - mn2 h p) else 0))), (0, 11, Cont.cell (AV.int IntKind.i64 (errF (rokF h p)))), (0, 12, Cont.cell (AV.int IntKind.i64 (IntKind.i64.wrap (h + p))))], 353, 117⟩) (by kernel_rfl) (by kernel_rfl) ?_
        refine evC_seq ?_
        refine evC_go0 (dec := []) (ks := [(0, 0), (0, 1), (0, 2), (0, 6), (0, 7), (0, 8), (0, 9), (0, 10), (0, 11), (0, 12), (0, 58)]) (s' := ⟨[(0, 0, Cont.cell (AV.int IntKind.i64 h)), (0, 1, Cont.cell (AV.int IntKind.i64 most)), (0, 2, Cont.cell (AV.int IntKind.i64 p)), (0, 6, Cont.cell (AV.bool false)), (0, 7, Cont.cell (AV.int IntKind.i64 (mendF h most p))), (0, 8, Cont.cell (AV.int IntKind.i64 (errF (mokF h most p)))), (0, 9, Cont.cell (AV.int IntKind.i64 (bif rokF h p then mn2 h p else 0))), (0, 10, Cont.cell (AV.int IntKind.i64 (bif rokF h p then IntKind.i64.wrap (h - mn2 h p) else 0))), (0, 11, Cont.cell (AV.int IntKind.i64 (errF (rokF h p)))), (0, 12, Cont.cell (AV.int IntKind.i64 (IntKind.i64.wrap (h + p)))), (0, 58, Cont.cell (AV.bool (decide (IntKind.i64.wrap (h + p) > most))))], 377, 117⟩) (by kernel_rfl) (by kernel_rfl) ?_
        refine evC_if (q := decide (IntKind.i64.wrap (h + p) > most)) (by kernel_rfl) (fun hc => ?_) (fun hc => ?_)
        · have hgt := of_decide_eq_true hc
          rw [hw] at hgt
          clear hc
          refine evC_goL0 (dec := []) (ks := [(0, 0), (0, 1), (0, 2), (0, 6), (0, 7), (0, 8), (0, 9), (0, 10), (0, 11), (0, 12)]) (s' := ⟨[(0, 0, Cont.cell (AV.int IntKind.i64 h)), (0, 1, Cont.cell (AV.int IntKind.i64 most)), (0, 2, Cont.cell (AV.int IntKind.i64 p)), (0, 6, Cont.cell (AV.bool false)), (0, 7, Cont.cell (AV.int IntKind.i64 (mendF h most p))), (0, 8, Cont.cell (AV.int IntKind.i64 (errF (mokF h most p)))), (0, 9, Cont.cell (AV.int IntKind.i64 (bif rokF h p then mn2 h p else 0))), (0, 10, Cont.cell (AV.int IntKind.i64 (bif rokF h p then IntKind.i64.wrap (h - mn2 h p) else 0))), (0, 11, Cont.cell (AV.int IntKind.i64 (errF (rokF h p)))), (0, 12, Cont.cell (AV.int IntKind.i64 most))], 393, 117⟩) (by kernel_rfl) (by kernel_rfl) ?_
          refine then_normal ?_
          refine evC_go0 (dec := []) (ks := [(0, 0), (0, 1), (0, 2), (0, 6), (0, 9), (0, 10), (0, 11), (0, 66)]) (s' := ⟨[(0, 0, Cont.cell (AV.int IntKind.i64 h)), (0, 1, Cont.cell (AV.int IntKind.i64 most)), (0, 2, Cont.cell (AV.int IntKind.i64 p)), (0, 6, Cont.cell (AV.bool false)), (0, 9, Cont.cell (AV.int IntKind.i64 (bif rokF h p then mn2 h p else 0))), (0, 10, Cont.cell (AV.int IntKind.i64 (bif rokF h p then IntKind.i64.wrap (h - mn2 h p) else 0))), (0, 11, Cont.cell (AV.int IntKind.i64 (errF (rokF h p)))), (0, 66, Cont.cell (AV.bool (bif mendF h most p != most then true else errF (mokF h most p) != 0)))], 449, 117⟩) (by kernel_rfl) (by kernel_rfl) ?_
          refine evC_if (q := bif mendF h most p != most then true else errF (mokF h most p) != 0) (by kernel_rfl) (fun hc => ?_) (fun hc => ?_)
          · exfalso
            rw [hv, hm, if_pos (by omega)] at hc
            simp [errF] at hc
          · refine evC_skip ?_
            exact cut_normal () (wk_flat rfl rfl rfl (by kernel_rfl) (fun π => by kernel_rfl))
        · have hgt := of_decide_eq_false hc
          rw [hw] at hgt
          clear hc
          refine evC_skip ?_
          refine then_normal ?_
          refine evC_go0 (dec := []) (ks := [(0, 0), (0, 1), (0, 2), (0, 6), (0, 9), (0, 10), (0, 11), (0, 66)]) (s' := ⟨[(0, 0, Cont.cell (AV.int IntKind.i64 h)), (0, 1, Cont.cell (AV.int IntKind.i64 most)), (0, 2, Cont.cell (AV.int IntKind.i64 p)), (0, 6, Cont.cell (AV.bool false)), (0, 9, Cont.cell (AV.int IntKind.i64 (bif rokF h p then mn2 h p else 0))), (0, 10, Cont.cell (AV.int IntKind.i64 (bif rokF h p then IntKind.i64.wrap (h - mn2 h p) else 0))), (0, 11, Cont.cell (AV.int IntKind.i64 (errF (rokF h p)))), (0, 66, Cont.cell (AV.bool (bif mendF h most p != IntKind.i64.wrap (h + p) then true else errF (mokF h most p) != 0)))], 433, 117⟩) (by kernel_rfl) (by kernel_rfl) ?_
          refine evC_if (q := bif mendF h most p != IntKind.i64.wrap (h + p) then true else errF (mokF h most p) != 0) (by kernel_rfl) (fun hc => ?_) (fun hc => ?_)
          · exfalso
            rw [hv, hm, if_neg (by omega), hw] at hc
            simp [errF] at hc
          · refine evC_skip ?_
            exact cut_normal () (wk_flat rfl rfl rfl (by kernel_rfl) (fun π => by kernel_rfl))
    · refine evC_seq ?_
      refine evC_go0 (dec := []) (ks := [(0, 0), (0, 2), (0, 6), (0, 9), (0, 10), (0, 11), (0, 77)]) (s' := ⟨[(0, 0, Cont.cell (AV.int IntKind.i64 h)), (0, 2, Cont.cell (AV.int IntKind.i64 p)), (0, 6, Cont.cell (AV.bool false)), (0, 9, Cont.cell (AV.int IntKind.i64 (bif rokF h p then mn2 h p else 0))), (0, 10, Cont.cell (AV.int IntKind.i64 (bif rokF h p then IntKind.i64.wrap (h - mn2 h p) else 0))), (0, 11, Cont.cell (AV.int IntKind.i64 (errF (rokF h p)))), (0, 77, Cont.cell (AV.bool (bif bif !inR 0 16320 p then true else decide (h < 0) then true else decide (h > 65535))))], 89, 117⟩) (by kernel_rfl) (by kernel_rfl) ?_
      refine evC_if (q := bif bif !inR 0 16320 p then true else decide (h < 0) then true else decide (h > 65535)) (by kernel_rfl) (fun hc => ?_) (fun hc => ?_)
      · refine evC_go0 (dec := []) (ks := [(0, 0), (0, 2), (0, 6), (0, 9), (0, 10), (0, 11)]) (s' := ⟨[(0, 0, Cont.cell (AV.int IntKind.i64 h)), (0, 2, Cont.cell (AV.int IntKind.i64 p)), (0, 6, Cont.cell (AV.bool (bif bif bif (bif rokF h p then mn2 h p else 0) == 0 then (bif rokF h p then IntKind.i64.wrap (h - mn2 h p) else 0) == 0 else false then errF (rokF h p) == 1 else false then true else false))), (0, 9, Cont.cell (AV.int IntKind.i64 (bif rokF h p then mn2 h p else 0))), (0, 10, Cont.cell (AV.int IntKind.i64 (bif rokF h p then IntKind.i64.wrap (h - mn2 h p) else 0))), (0, 11, Cont.cell (AV.int IntKind.i64 (errF (rokF h p))))], 201, 117⟩) (by kernel_rfl) (by kernel_rfl) ?_
        refine evC_ret ?_
        refine then_ret ?_
        refine post_ret ?_
        refine ends_flat (vs := [AV.bool (bif bif bif (bif rokF h p then mn2 h p else 0) == 0 then (bif rokF h p then IntKind.i64.wrap (h - mn2 h p) else 0) == 0 else false then errF (rokF h p) == 1 else false then true else false)]) (Nat.zero_lt_succ _) (by kernel_rfl) (flat_of _ (by kernel_rfl)) rfl ?_
        have hr : rokF h p = false := by
          have a3 : decide (h < 0) = !decide (0 ≤ h) := by by_cases q : h < 0 <;> simp [q] <;> omega
          have a4 : decide (h > 65535) = !decide (h ≤ 65535) := by by_cases q : h > 65535 <;> simp [q] <;> omega
          rw [a3, a4] at hc
          simp only [rokF, inR] at hc ⊢
          revert hc
          cases decide (0 ≤ h) <;> cases decide (h ≤ 65535) <;> cases decide (0 ≤ p) <;> cases decide (p ≤ 16320) <;> simp
        simp only [hr, errF]
        rfl
      · refine evC_skip ?_
        refine then_normal ?_
        refine evC_go0 (dec := []) (ks := [(0, 6)]) (s' := ⟨[(0, 6, Cont.cell (AV.bool (bif bif bif bif IntKind.i64.wrap ((bif rokF h p then mn2 h p else 0) + bif rokF h p then IntKind.i64.wrap (h - mn2 h p) else 0) == h then decide ((bif rokF h p then mn2 h p else 0) ≤ p) else false then bif (bif rokF h p then IntKind.i64.wrap (h - mn2 h p) else 0) == 0 then true else (bif rokF h p then mn2 h p else 0) == p else false then errF (rokF h p) == 0 else false then true else false)))], 305, 117⟩) (by kernel_rfl) (by kernel_rfl) ?_
        refine evC_ret ?_
        refine post_ret ?_
        refine ends_flat (vs := [AV.bool (bif bif bif bif IntKind.i64.wrap ((bif rokF h p then mn2 h p else 0) + bif rokF h p then IntKind.i64.wrap (h - mn2 h p) else 0) == h then decide ((bif rokF h p then mn2 h p else 0) ≤ p) else false then bif (bif rokF h p then IntKind.i64.wrap (h - mn2 h p) else 0) == 0 then true else (bif rokF h p then mn2 h p else 0) == p else false then errF (rokF h p) == 0 else false then true else false)]) (Nat.zero_lt_succ _) (by kernel_rfl) (flat_of _ (by kernel_rfl)) rfl ?_
        have hr : rokF h p = true := by
          have a3 : decide (h < 0) = !decide (0 ≤ h) := by by_cases q : h < 0 <;> simp [q] <;> omega
          have a4 : decide (h > 65535) = !decide (h ≤ 65535) := by by_cases q : h > 65535 <;> simp [q] <;> omega
          rw [a3, a4] at hc
          simp only [rokF, inR] at hc ⊢
          revert hc
          cases decide (0 ≤ h) <;> cases decide (h ≤ 65535) <;> cases decide (0 ≤ p) <;> cases decide (p ≤ 16320) <;> simp
        have hr2 := hr
        simp [rokF, inR] at hr2
        have hm : mn2 h p ≤ p ∧ 0 ≤ mn2 h p ∧ mn2 h p ≤ h ∧ (mn2 h p = h ∨ mn2 h p = p) := by
          unfold mn2; split <;> omega
        have hw : IntKind.i64.wrap (h - mn2 h p) = h - mn2 h p := i64_in _ (by omega)
        have hw2 : IntKind.i64.wrap (mn2 h p + (h - mn2 h p)) = h := by rw [show mn2 h p + (h - mn2 h p) = h by omega]; exact i64_in _ (by omega)
        simp only [hr, errF, cond_true, hw, hw2, oneAV]
        have e1 : decide (mn2 h p ≤ p) = true := decide_eq_true hm.1
        rcases hm.2.2.2 with e | e
        · simp [e, e1]
          omega
        · simp [e]
  · cases e

/-- The call itself. -/
theorem yardMends_calls (h most p : Int) (W : World) (w0 : (Lit.int .i64 h).wf = true) (w1 : (Lit.int .i64 most).wf = true) (w2 : (Lit.int .i64 p).wf = true) :
    Calls Try.prog 4 #[.int .i64 h, .int .i64 most, .int .i64 p] W fun e w' => e = .returned (.bool true) ∧ RowKit.Below W.heap.size W w' := by
  have r : ∀ x : Int, (Lit.int .i64 x).wf = true → i64R x := by
    intro x hx
    exact bounds_i64 hx
  refine row_true yardMends_ok (args := [.int .i64 h, .int .i64 most, .int .i64 p]) (xs := [.int .i64 h, .int .i64 most, .int .i64 p]) (.cons _ _ _ _ (.int _ _) (.cons _ _ _ _ (.int _ _) (.cons _ _ _ _ (.int _ _) .nil))) rfl ?_
  intro q hq
  simp only [List.mem_cons, List.mem_nil_iff, or_false] at hq
  rcases hq with rfl | rfl | rfl
  · exact r _ w0
  · exact r _ w1
  · exact r _ w2
end Go.Eng.S20
