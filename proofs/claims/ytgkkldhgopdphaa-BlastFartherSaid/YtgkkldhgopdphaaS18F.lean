/- The statement BlastFarther of seat Ytgkkldhgopdphaa is proved: at its own place a blow does its damage, farther off along a side it hurts no more, and never more than its damage; no condition. -/
import Derived.Test.YtgkkldhgopdphaaRows
import Derived.Test.YtgkkldhgopdphaaS18D
import Derived.Test.YtgkkldhgopdphaaEngX
set_option linter.unusedSimpArgs false
set_option linter.unusedVariables false
namespace Go.Proofs.Ytgkkldhgopdphaa.blastFarther
open Go.ChangeShapes Go.WideShapes Go.ChangeAt Go.RowKit
theorem own : ownKnob Try.prog.godebug = none := by kernel_rfl
theorem laid : laidOutB Try.prog = true := by kernel_rfl
set_option maxRecDepth 100000 in
theorem lifted (os : Os) (started : os.Started) (H : Type) (enc : TypeId × Value → H) :
    ReturnsInHanded {} Try.checked os 6 .any (Rows.blastFartherSpec.pre6 enc Try.prog Try.f6 Rows.blastFartherRow.domain false) (Rows.blastFartherSpec.post enc Try.prog Try.f6 false true false false) := by
  refine returnsInHanded_of_change_sized (C := Try.checked) own started (by kernel_rfl) Try.func6
    (ChangeSpec.witness6 (enc := enc) (C := Try.checked) false ⟨#[], #[.agg #[.int .i64 0, .int .i64 0, .int .i64 0, .int .i64 0], .int .i64 0, .int .i64 0], []⟩ 8 (by kernel_rfl) (by kernel_rfl) (by kernel_rfl) (by kernel_rfl)) ?_
  intro W base args ds gs before hval0 hW hcnd hsz0 _
  have hval : ∀ (j : Nat) t v, Try.f6.params[j]? = some t → args[j]? = some v → Value.okWide Try.prog W .any base t v := hval0
  have hW' := hW
  obtain ⟨p, q, hA0, hV, rfl, hfz, hnd⟩ := hW
  have hA : DataW.TrodAll enc Try.prog W 0 (fun _ => true) true Try.f6.params.toList args.toList ds p := hA0
  have hlt := hA.lt
  rw [Try.params6] at hA hval
  obtain ⟨v0, vs0, d0, ds0, p0, q0, hargs, rfl, rfl, h0, r0⟩ := trodAll_cons hA
  obtain ⟨v1, vs1, d1, ds1, p1, q1, rfl, rfl, rfl, h1, r1⟩ := trodAll_cons r0
  obtain ⟨v2, vs2, d2, ds2, p2, q2, rfl, rfl, rfl, h2, r2⟩ := trodAll_cons r1
  obtain ⟨rfl, rfl, rfl⟩ := trodAll_nil r2
  obtain rfl : args = #[v0, v1, v2] := by cases args; simp_all
  obtain ⟨rfl, rfl⟩ := trodVars_none hV
  have k0 := h0
  have k1 := h1
  have k2 := h2
  obtain ⟨avs0, us0, rfl, hs0⟩ := Go.Eng.open_flat Try.underlying23 (hval 0 23 v0 rfl rfl) h0 (ks := [.int .i64, .int .i64, .int .i64, .int .i64]) (by kernel_rfl)
  obtain ⟨b0_0, as0_0, u0_0, uz0_0, rfl, e0, s0_0, hs0⟩ := hs0.head
  obtain ⟨b0_1, as0_1, u0_1, uz0_1, rfl, rfl, s0_1, hs0⟩ := hs0.head
  obtain ⟨b0_2, as0_2, u0_2, uz0_2, rfl, rfl, s0_2, hs0⟩ := hs0.head
  obtain ⟨b0_3, as0_3, u0_3, uz0_3, rfl, rfl, s0_3, hs0⟩ := hs0.head
  obtain ⟨rfl, rfl⟩ := hs0.done
  obtain ⟨a0_0, rfl, rfl, w0_0⟩ := s0_0.int_inv
  obtain ⟨a0_1, rfl, rfl, w0_1⟩ := s0_1.int_inv
  obtain ⟨a0_2, rfl, rfl, w0_2⟩ := s0_2.int_inv
  obtain ⟨a0_3, rfl, rfl, w0_3⟩ := s0_3.int_inv
  obtain rfl : us0 = #[.int .i64 a0_0, .int .i64 a0_1, .int .i64 a0_2, .int .i64 a0_3] := by cases us0; simp_all
  obtain ⟨a1, rfl, rfl, rfl, w1⟩ := open_int Try.underlying2 (hval 1 2 v1 rfl rfl) h1
  obtain ⟨a2, rfl, rfl, rfl, w2⟩ := open_int Try.underlying2 (hval 2 2 v2 rfl rfl) h2
  clear hA0 hval0 hsz0
  have call := Go.Eng.row_true Go.Eng.S18.blastFarther_ok (W := W) (args := [.agg [.int .i64 a0_0, .int .i64 a0_1, .int .i64 a0_2, .int .i64 a0_3], .int .i64 a1, .int .i64 a2]) (xs := [.agg #[.int .i64 a0_0, .int .i64 a0_1, .int .i64 a0_2, .int .i64 a0_3], .int .i64 a1, .int .i64 a2])
    (.cons _ _ _ _ (.agg _ _ (.cons _ _ _ _ (.int _ _) rfl (.cons _ _ _ _ (.int _ _) rfl (.cons _ _ _ _ (.int _ _) rfl (.cons _ _ _ _ (.int _ _) rfl .nil))))) (.cons _ _ _ _ (.int _ _) (.cons _ _ _ _ (.int _ _) .nil))) rfl (by
      intro q hq
      simp only [List.mem_cons, List.mem_nil_iff, or_false] at hq
      rcases hq with rfl | rfl | rfl | rfl | rfl | rfl
      · exact bounds_i64 w0_0
      · exact bounds_i64 w0_1
      · exact bounds_i64 w0_2
      · exact bounds_i64 w0_3
      · exact bounds_i64 w1
      · exact bounds_i64 w2)
  refine call.mono fun e W' ⟨he, bel⟩ => ?_
  subst he
  exact ⟨_, rfl, _, _, _, [], _, [], hW', trodAll_mk1 (shut_bool Try.underlying4 _), (trodAll_cons_mk (Below.trod laid (by kernel_rfl) (of_decide_eq_true (by kernel_rfl)) k0 bel (fun x hx => hlt x (by simp [hx]))) (trodAll_cons_mk (shut_int Try.underlying2 w1) (trodAll_cons_mk (shut_int Try.underlying2 w2) trodAll_mk0))), rfl, bel.frame _, fun h => by cases h⟩
theorem over : Rows.blastFartherRow.holds Try.pinned (OpenSpec.ofChange Rows.blastFartherSpec) :=
  OpenClaim.holds_of_wide 6 Try.f6 rfl rfl rfl rfl rfl rfl rfl ⟨rfl, rfl, rfl, rfl, rfl⟩ rfl rfl rfl rfl rfl (by kernel_rfl) Try.func6 (by kernel_rfl)
    (of_decide_eq_true (by kernel_rfl)) (by unfold Func.isWrapper; first | (rw [if_pos (by decide +kernel)]; kernel_rfl) | (rw [if_neg (by decide +kernel)]; exact ⟨rfl, rfl⟩))
    (fun os started H enc _ => lifted os started H enc)
theorem proved : Rows.BlastFartherSaid := over
end Go.Proofs.Ytgkkldhgopdphaa.blastFarther
namespace Go.Proofs.Ytgkkldhgopdphaa
/-- The row, under a short name, for the claim. -/
theorem blastFarther_holds : Rows.BlastFartherSaid := blastFarther.proved
#print axioms blastFarther_holds
end Go.Proofs.Ytgkkldhgopdphaa
