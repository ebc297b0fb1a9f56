/- The statement NearMore of seat Ytkcigkoocimnlaa is proved: a greater distance finds no fewer, the nearest is among those found, and a spot finds itself; no condition. -/
import Derived.Test.YtkcigkoocimnlaaRows
import Derived.Test.YtkcigkoocimnlaaS12S
import Derived.Test.YtkcigkoocimnlaaEngX
set_option linter.unusedSimpArgs false
set_option linter.unusedVariables false
namespace Go.Proofs.Ytkcigkoocimnlaa.nearMore
open Go.ChangeShapes Go.WideShapes Go.ChangeAt Go.RowKit
theorem own : ownKnob Try.prog.godebug = none := by kernel_rfl
theorem laid : laidOutB Try.prog = true := by kernel_rfl
set_option maxRecDepth 100000 in
theorem lifted (os : Os) (started : os.Started) (H : Type) (enc : TypeId × Value → H) :
    ReturnsInHanded {} Try.checked os 6 .any (Rows.nearMoreSpec.pre6 enc Try.prog Try.f6 Rows.nearMoreRow.domain false) (Rows.nearMoreSpec.post enc Try.prog Try.f6 false true false false) := by
  refine returnsInHanded_of_change_sized (C := Try.checked) own started (by kernel_rfl) Try.func6
    (ChangeSpec.witness6 (enc := enc) (C := Try.checked) false ⟨#[], #[.agg #[.slice none 0 0, .int .i64 0, .int .i64 0, .int .i64 0]], []⟩ 8 (by kernel_rfl) (by kernel_rfl) (by kernel_rfl) (by kernel_rfl)) ?_
  intro W base args ds gs before hval0 hW hcnd hsz0 _
  have hval : ∀ (j : Nat) t v, Try.f6.params[j]? = some t → args[j]? = some v → Value.okWide Try.prog W .any base t v := hval0
  have hW' := hW
  obtain ⟨p, q, hA0, hV, rfl, hfz, hnd⟩ := hW
  have hA : DataW.TrodAll enc Try.prog W 0 (fun _ => true) true Try.f6.params.toList args.toList ds p := hA0
  have hlt := hA.lt
  rw [Try.params6] at hA hval
  obtain ⟨v0, vs0, d0, ds0, p0, q0, hargs, rfl, rfl, h0, r0⟩ := trodAll_cons hA
  obtain ⟨rfl, rfl, rfl⟩ := trodAll_nil r0
  obtain rfl : args = #[v0] := by cases args; simp_all
  obtain ⟨rfl, rfl⟩ := trodVars_none hV
  have k0 := h0
  obtain ⟨avs0, us0, rfl, hs0⟩ := Go.Eng.open_deep Try.underlying24 (hval 0 24 v0 rfl rfl) h0 (ks := [.sl [.int .i64, .int .i64], .int .i64, .int .i64, .int .i64]) (by kernel_rfl)
  obtain ⟨ul0⟩ := us0
  have hs0 : Go.Eng.DL _ _ _ ul0 := hs0
  obtain ⟨b0_0, as0_0, u0_0, ut0_0, eb0_0, e0_0, s0_0, hq0_0⟩ := hs0.head
  subst e0_0
  obtain ⟨n0_0, f0_0, g0_0, ea0_0, o0_0, vr0_0, nm0_0, fs0_0⟩ := s0_0.sl_inv
  have vs0_0 := fun ρ => Go.Eng.rs_congr (vr0_0 ρ) (Go.Eng.rowW_eq fs0_0).1
  obtain ⟨b0_1, as0_1, u0_1, ut0_1, eb0_1, e0_1, s0_1, hq0_1⟩ := hq0_0.head
  subst e0_1
  obtain ⟨a0_1, ea0_1, ev0_1, w0_1⟩ := s0_1.int_inv
  subst ev0_1
  obtain ⟨b0_2, as0_2, u0_2, ut0_2, eb0_2, e0_2, s0_2, hq0_2⟩ := hq0_1.head
  subst e0_2
  obtain ⟨a0_2, ea0_2, ev0_2, w0_2⟩ := s0_2.int_inv
  subst ev0_2
  obtain ⟨b0_3, as0_3, u0_3, ut0_3, eb0_3, e0_3, s0_3, hq0_3⟩ := hq0_2.head
  subst e0_3
  obtain ⟨a0_3, ea0_3, ev0_3, w0_3⟩ := s0_3.int_inv
  subst ev0_3
  obtain ⟨_, ed0⟩ := hq0_3.done
  subst ed0
  clear hA0 hval0 hsz0
  have call := Go.Eng.row_true Go.Eng.S12.nearMore_ok (W := W) (args := [.agg [.rs 2 n0_0 false (Go.Eng.rowW f0_0), .int .i64 a0_1, .int .i64 a0_2, .int .i64 a0_3]]) (xs := [_])
    (.cons _ _ _ _ (.agg _ _ (.cons _ _ _ _ (vs0_0 _) o0_0 (.cons _ _ _ _ (.int _ _) rfl (.cons _ _ _ _ (.int _ _) rfl (.cons _ _ _ _ (.int _ _) rfl .nil))))) .nil) rfl (by
      intro q hq
      simp only [List.mem_cons, List.mem_nil_iff, or_false] at hq
      rcases hq with rfl
      · exact ⟨fun _ _ => rfl, nm0_0⟩)
  refine call.mono fun e W' ⟨he, bel⟩ => ?_
  subst he
  exact ⟨_, rfl, _, _, _, [], _, [], hW', trodAll_mk1 (shut_bool Try.underlying4 _), (trodAll_cons_mk (Below.trod laid (by kernel_rfl) (of_decide_eq_true (by kernel_rfl)) k0 bel (fun x hx => hlt x (by simp [hx]))) trodAll_mk0), rfl, bel.frame _, fun h => by cases h⟩
theorem over : Rows.nearMoreRow.holds Try.pinned (OpenSpec.ofChange Rows.nearMoreSpec) :=
  OpenClaim.holds_of_wide 6 Try.f6 rfl rfl rfl rfl rfl rfl rfl ⟨rfl, rfl, rfl, rfl, rfl⟩ rfl rfl rfl rfl rfl (by kernel_rfl) Try.func6 (by kernel_rfl)
    (of_decide_eq_true (by kernel_rfl)) (by unfold Func.isWrapper; first | (rw [if_pos (by decide +kernel)]; kernel_rfl) | (rw [if_neg (by decide +kernel)]; exact ⟨rfl, rfl⟩))
    (fun os started H enc _ => lifted os started H enc)
theorem proved : Rows.NearMoreSaid := over
end Go.Proofs.Ytkcigkoocimnlaa.nearMore
namespace Go.Proofs.Ytkcigkoocimnlaa
/-- The row, under a short name, for the claim. -/
theorem nearMore_holds : Rows.NearMoreSaid := nearMore.proved
#print axioms nearMore_holds
end Go.Proofs.Ytkcigkoocimnlaa
