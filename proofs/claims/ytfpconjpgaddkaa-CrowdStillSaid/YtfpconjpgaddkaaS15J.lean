/- The statement CrowdStill of seat Ytfpconjpgaddkaa is proved: who settles again with the same wishes, once all who could have gone are there, stays; and who wishes for nothing stays; no condition. -/
import Derived.Test.YtfpconjpgaddkaaRows
import Derived.Test.YtfpconjpgaddkaaS15E
import Derived.Test.YtfpconjpgaddkaaEngX
set_option linter.unusedSimpArgs false
set_option linter.unusedVariables false
namespace Go.Proofs.Ytfpconjpgaddkaa.crowdStill
open Go.ChangeShapes Go.WideShapes Go.ChangeAt Go.RowKit
theorem own : ownKnob Try.prog.godebug = none := by kernel_rfl
theorem laid : laidOutB Try.prog = true := by kernel_rfl
set_option maxRecDepth 100000 in
theorem lifted (os : Os) (started : os.Started) (H : Type) (enc : TypeId × Value → H) :
    ReturnsInHanded {} Try.checked os 6 .any (Rows.crowdStillSpec.pre6 enc Try.prog Try.f6 Rows.crowdStillRow.domain false) (Rows.crowdStillSpec.post enc Try.prog Try.f6 false true false false) := by
  refine returnsInHanded_of_change_sized (C := Try.checked) own started (by kernel_rfl) Try.func6
    (ChangeSpec.witness6 (enc := enc) (C := Try.checked) false ⟨#[], #[.agg #[.int .i64 0, .slice none 0 0, .slice none 0 0, .slice none 0 0]], []⟩ 8 (by kernel_rfl) (by kernel_rfl) (by kernel_rfl) (by kernel_rfl)) ?_
  intro W base args ds gs before hval0 hW hcnd hsz0 _
  have hval : ∀ (j : Nat) t v, Try.f6.params[j]? = some t → args[j]? = some v → Value.okWide Try.prog W .any base t v := hval0
  have hW' := hW
  obtain ⟨p, q, hA0, hV, rfl, hfz, hnd⟩ := hW
  have hA : DataW.TrodAll enc Try.prog W 0 (fun _ => true) true Try.f6.params.toList args.toList ds p := hA0
  have hlt := hA.lt
  rw [Try.params6] at hA hval
  obtain ⟨v0, vs0, d0, ds0, p0, q0, hargs, rfl, rfl, h0, r0⟩ := trodAll_cons hA
  obtain ⟨rfl, rfl, rfl⟩ := trodAll_nil r0
  obtain rfl : args = #[v0] := by cases args; simp_all
  obtain ⟨rfl, rfl⟩ := trodVars_none hV
  have k0 := h0
  obtain ⟨avs0, us0, rfl, hs0⟩ := Go.Eng.open_deep Try.underlying25 (hval 0 25 v0 rfl rfl) h0 (ks := [.int .i64, .sl [.bool], .sl [.int .i64], .sl [.int .i64]]) (by kernel_rfl)
  obtain ⟨ul0⟩ := us0
  have hs0 : Go.Eng.DL _ _ _ ul0 := hs0
  obtain ⟨b0_0, as0_0, u0_0, ut0_0, eb0_0, e0_0, s0_0, hq0_0⟩ := hs0.head
  subst e0_0
  obtain ⟨a0_0, ea0_0, ev0_0, w0_0⟩ := s0_0.int_inv
  subst ev0_0
  obtain ⟨b0_1, as0_1, u0_1, ut0_1, eb0_1, e0_1, s0_1, hq0_1⟩ := hq0_0.head
  subst e0_1
  obtain ⟨n0_1, f0_1, g0_1, ea0_1, o0_1, vr0_1, nm0_1, fs0_1⟩ := s0_1.sl_inv
  have vs0_1 := fun ρ => Go.Eng.rs_congr (vr0_1 ρ) (Go.Eng.rowB_eq fs0_1).1
  obtain ⟨b0_2, as0_2, u0_2, ut0_2, eb0_2, e0_2, s0_2, hq0_2⟩ := hq0_1.head
  subst e0_2
  obtain ⟨n0_2, f0_2, g0_2, ea0_2, o0_2, vr0_2, nm0_2, fs0_2⟩ := s0_2.sl_inv
  have vs0_2 := fun ρ => Go.Eng.rs_congr (vr0_2 ρ) (Go.Eng.rowI_eq fs0_2).1
  obtain ⟨b0_3, as0_3, u0_3, ut0_3, eb0_3, e0_3, s0_3, hq0_3⟩ := hq0_2.head
  subst e0_3
  obtain ⟨n0_3, f0_3, g0_3, ea0_3, o0_3, vr0_3, nm0_3, fs0_3⟩ := s0_3.sl_inv
  have vs0_3 := fun ρ => Go.Eng.rs_congr (vr0_3 ρ) (Go.Eng.rowI_eq fs0_3).1
  obtain ⟨_, ed0⟩ := hq0_3.done
  subst ed0
  clear hA0 hval0 hsz0
  have call := Go.Eng.row_true Go.Eng.S15.crowdStill_ok (W := W) (args := [.agg [.int .i64 a0_0, .rs 1 n0_1 false (Go.Eng.rowB f0_1), .rs 1 n0_2 false (Go.Eng.rowI f0_2), .rs 1 n0_3 false (Go.Eng.rowI f0_3)]]) (xs := [_])
    (.cons _ _ _ _ (.agg _ _ (.cons _ _ _ _ (.int _ _) rfl (.cons _ _ _ _ (vs0_1 _) o0_1 (.cons _ _ _ _ (vs0_2 _) o0_2 (.cons _ _ _ _ (vs0_3 _) o0_3 .nil))))) .nil) rfl (by
      intro q hq
      simp only [List.mem_cons, List.mem_nil_iff, or_false] at hq
      rcases hq with rfl
      · exact ⟨⟨rfl, rfl, rfl⟩, nm0_1, nm0_2, nm0_3⟩)
  refine call.mono fun e W' ⟨he, bel⟩ => ?_
  subst he
  exact ⟨_, rfl, _, _, _, [], _, [], hW', trodAll_mk1 (shut_bool Try.underlying4 _), (trodAll_cons_mk (Below.trod laid (by kernel_rfl) (of_decide_eq_true (by kernel_rfl)) k0 bel (fun x hx => hlt x (by simp [hx]))) trodAll_mk0), rfl, bel.frame _, fun h => by cases h⟩
theorem over : Rows.crowdStillRow.holds Try.pinned (OpenSpec.ofChange Rows.crowdStillSpec) :=
  OpenClaim.holds_of_wide 6 Try.f6 rfl rfl rfl rfl rfl rfl rfl ⟨rfl, rfl, rfl, rfl, rfl⟩ rfl rfl rfl rfl rfl (by kernel_rfl) Try.func6 (by kernel_rfl)
    (of_decide_eq_true (by kernel_rfl)) (by unfold Func.isWrapper; first | (rw [if_pos (by decide +kernel)]; kernel_rfl) | (rw [if_neg (by decide +kernel)]; exact ⟨rfl, rfl⟩))
    (fun os started H enc _ => lifted os started H enc)
theorem proved : Rows.CrowdStillSaid := over
end Go.Proofs.Ytfpconjpgaddkaa.crowdStill
namespace Go.Proofs.Ytfpconjpgaddkaa
/-- The row, under a short name, for the claim. -/
theorem crowdStill_holds : Rows.CrowdStillSaid := crowdStill.proved
#print axioms crowdStill_holds
end Go.Proofs.Ytfpconjpgaddkaa
