/- The statement OrdersEncodes of seat Ytdflehcijhejlaa is proved: which orders are of the form, and any orders' bytes, are the document's; no condition. -/
import Derived.Test.YtdflehcijhejlaaRows
import Derived.Test.YtdflehcijhejlaaS22J
import Derived.Test.YtdflehcijhejlaaEngX
set_option linter.unusedSimpArgs false
set_option linter.unusedVariables false
namespace Go.Proofs.Ytdflehcijhejlaa.ordersEncodes
open Go.ChangeShapes Go.WideShapes Go.ChangeAt Go.RowKit
theorem own : ownKnob Try.prog.godebug = none := by kernel_rfl
theorem laid : laidOutB Try.prog = true := by kernel_rfl
set_option maxRecDepth 100000 in
theorem lifted (os : Os) (started : os.Started) (H : Type) (enc : TypeId × Value → H) :
    ReturnsInHanded {} Try.checked os 4 .any (Rows.ordersEncodesSpec.pre6 enc Try.prog Try.f4 Rows.ordersEncodesRow.domain false) (Rows.ordersEncodesSpec.post enc Try.prog Try.f4 false true false false) := by
  refine returnsInHanded_of_change_sized (C := Try.checked) own started (by kernel_rfl) Try.func4
    (ChangeSpec.witness6 (enc := enc) (C := Try.checked) false ⟨#[], #[.slice none 0 0], []⟩ 8 (by kernel_rfl) (by kernel_rfl) (by kernel_rfl) (by kernel_rfl)) ?_
  intro W base args ds gs before hval0 hW hcnd hsz0 _
  have hval : ∀ (j : Nat) t v, Try.f4.params[j]? = some t → args[j]? = some v → Value.okWide Try.prog W .any base t v := hval0
  have hW' := hW
  obtain ⟨p, q, hA0, hV, rfl, hfz, hnd⟩ := hW
  have hA : DataW.TrodAll enc Try.prog W 0 (fun _ => true) true Try.f4.params.toList args.toList ds p := hA0
  have hlt := hA.lt
  rw [Try.params4] at hA hval
  obtain ⟨v0, vs0, d0, ds0, p0, q0, hargs, rfl, rfl, h0, r0⟩ := trodAll_cons hA
  obtain ⟨rfl, rfl, rfl⟩ := trodAll_nil r0
  obtain rfl : args = #[v0] := by cases args; simp_all
  obtain ⟨rfl, rfl⟩ := trodVars_none hV
  have k0 := h0
  obtain ⟨n0, f0, g0, nm0, vr0, fs0⟩ := Go.Eng.open_slice (ks := [.int .i64, .int .i64, .int .i64, .int .i64, .int .i64]) Try.underlying23 (hval 0 23 v0 rfl rfl) h0 (by kernel_rfl) (by kernel_rfl) (by decide)
  clear hA0 hval0 hsz0
  have call := Go.Eng.row_true Go.Eng.S22.law_encodes_ok (W := W) (args := [.rs 5 n0 false fun i => Go.Eng.ofSc (f0 i)]) (xs := [v0])
    (.cons _ _ _ _ (vr0 _) .nil) rfl (by
      intro q hq
      simp only [List.mem_cons, List.mem_nil_iff, or_false] at hq
      rcases hq with rfl
      · exact ⟨fun i hi => Go.Eng.ofSc5 (fs0 i hi), nm0⟩)
  refine call.mono fun e W' ⟨he, bel⟩ => ?_
  subst he
  exact ⟨_, rfl, _, _, _, [], _, [], hW', trodAll_mk1 (shut_bool Try.underlying4 _), (trodAll_cons_mk (Below.trod laid (by kernel_rfl) (of_decide_eq_true (by kernel_rfl)) k0 bel (fun x hx => hlt x (by simp [hx]))) trodAll_mk0), rfl, bel.frame _, fun h => by cases h⟩
theorem over : Rows.ordersEncodesRow.holds Try.pinned (OpenSpec.ofChange Rows.ordersEncodesSpec) :=
  OpenClaim.holds_of_wide 4 Try.f4 rfl rfl rfl rfl rfl rfl rfl ⟨rfl, rfl, rfl, rfl, rfl⟩ rfl rfl rfl rfl rfl (by kernel_rfl) Try.func4 (by kernel_rfl)
    (of_decide_eq_true (by kernel_rfl)) (by unfold Func.isWrapper; first | (rw [if_pos (by decide +kernel)]; kernel_rfl) | (rw [if_neg (by decide +kernel)]; exact ⟨rfl, rfl⟩))
    (fun os started H enc _ => lifted os started H enc)
theorem proved : Rows.OrdersEncodesSaid := over
end Go.Proofs.Ytdflehcijhejlaa.ordersEncodes
namespace Go.Proofs.Ytdflehcijhejlaa
/-- The row, under a short name, for the claim. -/
theorem ordersEncodes_holds : Rows.OrdersEncodesSaid := ordersEncodes.proved
#print axioms ordersEncodes_holds
end Go.Proofs.Ytdflehcijhejlaa
