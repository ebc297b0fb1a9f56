/- The statement NearPairs of seat Ytkcigkoocimnlaa is proved: however an index is made, Pairs tells the same pairs in the same order as the document's distances do; no condition. -/
import Derived.Test.YtkcigkoocimnlaaRows
import Derived.Test.YtkcigkoocimnlaaS12Q
import Derived.Test.YtkcigkoocimnlaaEngX
set_option linter.unusedSimpArgs false
set_option linter.unusedVariables false
namespace Go.Proofs.Ytkcigkoocimnlaa.nearPairs
open Go.ChangeShapes Go.WideShapes Go.ChangeAt Go.RowKit
theorem own : ownKnob Try.prog.godebug = none := by kernel_rfl
theorem laid : laidOutB Try.prog = true := by kernel_rfl
set_option maxRecDepth 100000 in
theorem lifted (os : Os) (started : os.Started) (H : Type) (enc : TypeId × Value → H) :
    ReturnsInHanded {} Try.checked os 5 .any (Rows.nearPairsSpec.pre6 enc Try.prog Try.f5 Rows.nearPairsRow.domain false) (Rows.nearPairsSpec.post enc Try.prog Try.f5 false true false false) := by
  refine returnsInHanded_of_change_sized (C := Try.checked) own started (by kernel_rfl) Try.func5
    (ChangeSpec.witness6 (enc := enc) (C := Try.checked) false ⟨#[], #[.slice none 0 0, .int .i64 0], []⟩ 8 (by kernel_rfl) (by kernel_rfl) (by kernel_rfl) (by kernel_rfl)) ?_
  intro W base args ds gs before hval0 hW hcnd hsz0 _
  have hval : ∀ (j : Nat) t v, Try.f5.params[j]? = some t → args[j]? = some v → Value.okWide Try.prog W .any base t v := hval0
  have hW' := hW
  obtain ⟨p, q, hA0, hV, rfl, hfz, hnd⟩ := hW
  have hA : DataW.TrodAll enc Try.prog W 0 (fun _ => true) true Try.f5.params.toList args.toList ds p := hA0
  have hlt := hA.lt
  rw [Try.params5] at hA hval
  obtain ⟨v0, vs0, d0, ds0, p0, q0, hargs, rfl, rfl, h0, r0⟩ := trodAll_cons hA
  obtain ⟨v1, vs1, d1, ds1, p1, q1, rfl, rfl, rfl, h1, r1⟩ := trodAll_cons r0
  obtain ⟨rfl, rfl, rfl⟩ := trodAll_nil r1
  obtain rfl : args = #[v0, v1] := by cases args; simp_all
  obtain ⟨rfl, rfl⟩ := trodVars_none hV
  have k0 := h0
  have k1 := h1
  obtain ⟨n0, f0, g0, nm0, vr0, fs0⟩ := Go.Eng.open_slice (ks := [.int .i64, .int .i64]) Try.underlying22 (hval 0 22 v0 rfl rfl) h0 (by kernel_rfl) (by kernel_rfl) (by decide)
  obtain ⟨a1, rfl, rfl, rfl, w1⟩ := open_int Try.underlying2 (hval 1 2 v1 rfl rfl) h1
  clear hA0 hval0 hsz0
  have call := Go.Eng.row_true Go.Eng.S12.nearPairs_ok (W := W) (args := [.rs 2 n0 false fun i => Go.Eng.ofSc (f0 i), .int .i64 a1]) (xs := [v0, .int .i64 a1])
    (.cons _ _ _ _ (vr0 _) (.cons _ _ _ _ (.int _ _) .nil)) rfl (by
      intro q hq
      simp only [List.mem_cons, List.mem_nil_iff, or_false] at hq
      rcases hq with rfl
      · exact ⟨fun i hi => Go.Eng.ofSc2 (fs0 i hi), nm0⟩)
  refine call.mono fun e W' ⟨he, bel⟩ => ?_
  subst he
  exact ⟨_, rfl, _, _, _, [], _, [], hW', trodAll_mk1 (shut_bool Try.underlying4 _), (trodAll_cons_mk (Below.trod laid (by kernel_rfl) (of_decide_eq_true (by kernel_rfl)) k0 bel (fun x hx => hlt x (by simp [hx]))) (trodAll_cons_mk (shut_int Try.underlying2 w1) trodAll_mk0)), rfl, bel.frame _, fun h => by cases h⟩
theorem over : Rows.nearPairsRow.holds Try.pinned (OpenSpec.ofChange Rows.nearPairsSpec) :=
  OpenClaim.holds_of_wide 5 Try.f5 rfl rfl rfl rfl rfl rfl rfl ⟨rfl, rfl, rfl, rfl, rfl⟩ rfl rfl rfl rfl rfl (by kernel_rfl) Try.func5 (by kernel_rfl)
    (of_decide_eq_true (by kernel_rfl)) (by unfold Func.isWrapper; first | (rw [if_pos (by decide +kernel)]; kernel_rfl) | (rw [if_neg (by decide +kernel)]; exact ⟨rfl, rfl⟩))
    (fun os started H enc _ => lifted os started H enc)
theorem proved : Rows.NearPairsSaid := over
end Go.Proofs.Ytkcigkoocimnlaa.nearPairs
namespace Go.Proofs.Ytkcigkoocimnlaa
/-- The row, under a short name, for the claim. -/
theorem nearPairs_holds : Rows.NearPairsSaid := nearPairs.proved
#print axioms nearPairs_holds
end Go.Proofs.Ytkcigkoocimnlaa
