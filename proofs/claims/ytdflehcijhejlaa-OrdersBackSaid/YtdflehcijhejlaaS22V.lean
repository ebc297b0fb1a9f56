/- The statement OrdersBack of seat Ytdflehcijhejlaa is proved: what is encoded is decoded as it was, and what is decoded has just those bytes; no condition. -/
import Derived.Test.YtdflehcijhejlaaRows
import Derived.Test.YtdflehcijhejlaaS22U
import Derived.Test.YtdflehcijhejlaaEngX
set_option linter.unusedSimpArgs false
set_option linter.unusedVariables false
namespace Go.Proofs.Ytdflehcijhejlaa.ordersBack
open Go.ChangeShapes Go.WideShapes Go.ChangeAt Go.RowKit
theorem own : ownKnob Try.prog.godebug = none := by kernel_rfl
theorem laid : laidOutB Try.prog = true := by kernel_rfl
set_option maxRecDepth 100000 in
theorem lifted (os : Os) (started : os.Started) (H : Type) (enc : TypeId × Value → H) :
    ReturnsInHanded {} Try.checked os 6 .any (Rows.ordersBackSpec.pre6 enc Try.prog Try.f6 Rows.ordersBackRow.domain false) (Rows.ordersBackSpec.post enc Try.prog Try.f6 false true false false) := by
  refine returnsInHanded_of_change_sized (C := Try.checked) own started (by kernel_rfl) Try.func6
    (ChangeSpec.witness6 (enc := enc) (C := Try.checked) false ⟨#[], #[.slice none 0 0, .slice none 0 0], []⟩ 8 (by kernel_rfl) (by kernel_rfl) (by kernel_rfl) (by kernel_rfl)) ?_
  intro W base args ds gs before hval0 hW hcnd hsz0 _
  have hval : ∀ (j : Nat) t v, Try.f6.params[j]? = some t → args[j]? = some v → Value.okWide Try.prog W .any base t v := hval0
  have hW' := hW
  obtain ⟨p, q, hA0, hV, rfl, hfz, hnd⟩ := hW
  have hA : DataW.TrodAll enc Try.prog W 0 (fun _ => true) true Try.f6.params.toList args.toList ds p := hA0
  have hlt := hA.lt
  rw [Try.params6] at hA hval
  obtain ⟨v0, vs0, d0, ds0, p0, q0, hargs, rfl, rfl, h0, r0⟩ := trodAll_cons hA
  obtain ⟨v1, vs1, d1, ds1, p1, q1, rfl, rfl, rfl, h1, r1⟩ := trodAll_cons r0
  obtain ⟨rfl, rfl, rfl⟩ := trodAll_nil r1
  obtain rfl : args = #[v0, v1] := by cases args; simp_all
  obtain ⟨rfl, rfl⟩ := trodVars_none hV
  have k0 := h0
  have k1 := h1
  obtain ⟨n0, f0, g0, nm0, vr0, fs0⟩ := Go.Eng.open_slice (ks := [.int .i64, .int .i64, .int .i64, .int .i64, .int .i64]) Try.underlying23 (hval 0 23 v0 rfl rfl) h0 (by kernel_rfl) (by kernel_rfl) (by decide)
  obtain ⟨n1, f1, g1, nm1, vr1, fs1⟩ := Go.Eng.open_slice (ks := [.int .u8]) Try.underlying25 (hval 1 25 v1 rfl rfl) h1 (by kernel_rfl) (by kernel_rfl) (by decide)
  clear hA0 hval0 hsz0
  have call := Go.Eng.row_true Go.Eng.S22.law_back_ok (W := W) (args := [.rs 5 n0 false fun i => Go.Eng.ofSc (f0 i), .rs 1 n1 false fun i => Go.Eng.ofSc (f1 i)]) (xs := [v0, v1])
    (.cons _ _ _ _ (vr0 _) (.cons _ _ _ _ (vr1 _) .nil)) rfl (by
      intro q hq
      simp only [List.mem_cons, List.mem_nil_iff, or_false] at hq
      rcases hq with rfl | rfl
      · exact ⟨fun i hi => Go.Eng.ofSc5 (fs0 i hi), nm0⟩
      · exact ⟨⟨fun i hi => Go.Eng.ofSc1u (fs1 i hi)⟩, nm1⟩)
  refine call.mono fun e W' ⟨he, bel⟩ => ?_
  subst he
  exact ⟨_, rfl, _, _, _, [], _, [], hW', trodAll_mk1 (shut_bool Try.underlying4 _), (trodAll_cons_mk (Below.trod laid (by kernel_rfl) (of_decide_eq_true (by kernel_rfl)) k0 bel (fun x hx => hlt x (by simp [hx]))) (trodAll_cons_mk (Below.trod laid (by kernel_rfl) (of_decide_eq_true (by kernel_rfl)) k1 bel (fun x hx => hlt x (by simp [hx]))) trodAll_mk0)), rfl, bel.frame _, fun h => by cases h⟩
theorem over : Rows.ordersBackRow.holds Try.pinned (OpenSpec.ofChange Rows.ordersBackSpec) :=
  OpenClaim.holds_of_wide 6 Try.f6 rfl rfl rfl rfl rfl rfl rfl ⟨rfl, rfl, rfl, rfl, rfl⟩ rfl rfl rfl rfl rfl (by kernel_rfl) Try.func6 (by kernel_rfl)
    (of_decide_eq_true (by kernel_rfl)) (by unfold Func.isWrapper; first | (rw [if_pos (by decide +kernel)]; kernel_rfl) | (rw [if_neg (by decide +kernel)]; exact ⟨rfl, rfl⟩))
    (fun os started H enc _ => lifted os started H enc)
theorem proved : Rows.OrdersBackSaid := over
end Go.Proofs.Ytdflehcijhejlaa.ordersBack
namespace Go.Proofs.Ytdflehcijhejlaa
/-- The row, under a short name, for the claim. -/
theorem ordersBack_holds : Rows.OrdersBackSaid := ordersBack.proved
#print axioms ordersBack_holds
end Go.Proofs.Ytdflehcijhejlaa
