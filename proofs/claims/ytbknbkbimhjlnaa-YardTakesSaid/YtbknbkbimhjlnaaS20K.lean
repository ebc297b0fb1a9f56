/- The statement YardTakes of seat Ytbknbkbimhjlnaa is proved: whether any site may be, what it has taken, and what it takes for more, are the document's, or it is refused; no condition. -/
import Derived.Test.YtbknbkbimhjlnaaRows
import Derived.Test.YtbknbkbimhjlnaaS20J
import Derived.Test.YtbknbkbimhjlnaaEngV
set_option linter.unusedSimpArgs false
set_option linter.unusedVariables false
namespace Go.Proofs.Ytbknbkbimhjlnaa.yardTakes
open Go.ChangeShapes Go.WideShapes Go.ChangeAt Go.RowKit
theorem own : ownKnob Try.prog.godebug = none := by kernel_rfl
theorem laid : laidOutB Try.prog = true := by kernel_rfl
set_option maxRecDepth 100000 in
theorem lifted (os : Os) (started : os.Started) (H : Type) (enc : TypeId × Value → H) :
    ReturnsInHanded {} Try.checked os 5 .any (Rows.yardTakesSpec.pre6 enc Try.prog Try.f5 Rows.yardTakesRow.domain false) (Rows.yardTakesSpec.post enc Try.prog Try.f5 false true false false) := by
  refine returnsInHanded_of_change_sized (C := Try.checked) own started (by kernel_rfl) Try.func5
    (ChangeSpec.witness6 (enc := enc) (C := Try.checked) false ⟨#[], #[.agg #[.int .i64 0, .int .i64 0, .int .i64 0, .int .i64 0], .int .i64 0], []⟩ 8 (by kernel_rfl) (by kernel_rfl) (by kernel_rfl) (by kernel_rfl)) ?_
  intro W base args ds gs before hval0 hW hcnd hsz0 _
  have hval : ∀ (j : Nat) t v, Try.f5.params[j]? = some t → args[j]? = some v → Value.okWide Try.prog W .any base t v := hval0
  have hW' := hW
  obtain ⟨p, q, hA0, hV, rfl, hfz, hnd⟩ := hW
  have hA : DataW.TrodAll enc Try.prog W 0 (fun _ => true) true Try.f5.params.toList args.toList ds p := hA0
  have hlt := hA.lt
  rw [Try.params5] at hA hval
  obtain ⟨v0, vs0, d0, ds0, p0, q0, hargs, rfl, rfl, h0, r0⟩ := trodAll_cons hA
  obtain ⟨v1, vs1, d1, ds1, p1, q1, rfl, rfl, rfl, h1, r1⟩ := trodAll_cons r0
  obtain ⟨rfl, rfl, rfl⟩ := trodAll_nil r1
  obtain rfl : args = #[v0, v1] := by cases args; simp_all
  obtain ⟨rfl, rfl⟩ := trodVars_none hV
  have k0 := h0
  have k1 := h1
  obtain ⟨avs0, us0, rfl, hs0⟩ := Go.Eng.open_flat Try.underlying23 (hval 0 23 v0 rfl rfl) h0 (ks := [.int .i64, .int .i64, .int .i64, .int .i64]) (by kernel_rfl)
  obtain ⟨b0_0, as0_0, u0_0, uz0_0, rfl, e0, s0_0, hs0⟩ := hs0.head
  obtain ⟨b0_1, as0_1, u0_1, uz0_1, rfl, rfl, s0_1, hs0⟩ := hs0.head
  obtain ⟨b0_2, as0_2, u0_2, uz0_2, rfl, rfl, s0_2, hs0⟩ := hs0.head
  obtain ⟨b0_3, as0_3, u0_3, uz0_3, rfl, rfl, s0_3, hs0⟩ := hs0.head
  obtain ⟨rfl, rfl⟩ := hs0.done
  obtain ⟨a0_0, rfl, rfl, w0_0⟩ := s0_0.int_inv
  obtain ⟨a0_1, rfl, rfl, w0_1⟩ := s0_1.int_inv
  obtain ⟨a0_2, rfl, rfl, w0_2⟩ := s0_2.int_inv
  obtain ⟨a0_3, rfl, rfl, w0_3⟩ := s0_3.int_inv
  obtain rfl : us0 = #[.int .i64 a0_0, .int .i64 a0_1, .int .i64 a0_2, .int .i64 a0_3] := by cases us0; simp_all
  obtain ⟨a1, rfl, rfl, rfl, w1⟩ := open_int Try.underlying3 (hval 1 3 v1 rfl rfl) h1
  clear hA0 hval0 hsz0
  have call := Go.Eng.row_true Go.Eng.S20.yardTakes_ok (W := W) (args := [.agg [.int .i64 a0_0, .int .i64 a0_1, .int .i64 a0_2, .int .i64 a0_3], .int .i64 a1]) (xs := [.agg #[.int .i64 a0_0, .int .i64 a0_1, .int .i64 a0_2, .int .i64 a0_3], .int .i64 a1])
    (.cons _ _ _ _ (.agg _ _ (.cons _ _ _ _ (.int _ _) rfl (.cons _ _ _ _ (.int _ _) rfl (.cons _ _ _ _ (.int _ _) rfl (.cons _ _ _ _ (.int _ _) rfl .nil))))) (.cons _ _ _ _ (.int _ _) .nil)) rfl (by
      intro q hq
      cases hq)
  refine call.mono fun e W' ⟨he, bel⟩ => ?_
  subst he
  exact ⟨_, rfl, _, _, _, [], _, [], hW', trodAll_mk1 (shut_bool Try.underlying4 _), (trodAll_cons_mk (Below.trod laid (by kernel_rfl) (of_decide_eq_true (by kernel_rfl)) k0 bel (fun x hx => hlt x (by simp [hx]))) (trodAll_cons_mk (shut_int Try.underlying3 w1) trodAll_mk0)), rfl, bel.frame _, fun h => by cases h⟩
theorem over : Rows.yardTakesRow.holds Try.pinned (OpenSpec.ofChange Rows.yardTakesSpec) :=
  OpenClaim.holds_of_wide 5 Try.f5 rfl rfl rfl rfl rfl rfl rfl ⟨rfl, rfl, rfl, rfl, rfl⟩ rfl rfl rfl rfl rfl (by kernel_rfl) Try.func5 (by kernel_rfl)
    (of_decide_eq_true (by kernel_rfl)) (by unfold Func.isWrapper; first | (rw [if_pos (by decide +kernel)]; kernel_rfl) | (rw [if_neg (by decide +kernel)]; exact ⟨rfl, rfl⟩))
    (fun os started H enc _ => lifted os started H enc)
theorem proved : Rows.YardTakesSaid := over
end Go.Proofs.Ytbknbkbimhjlnaa.yardTakes
namespace Go.Proofs.Ytbknbkbimhjlnaa
/-- The row, under a short name, for the claim. -/
theorem yardTakes_holds : Rows.YardTakesSaid := yardTakes.proved
#print axioms yardTakes_holds
end Go.Proofs.Ytbknbkbimhjlnaa
