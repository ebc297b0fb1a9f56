/- The statement BivouacLand of seat Ythfpdhhnokhldaa is proved: whatever strikes the land, no place becomes higher, what was open to ships and to the air stays open to them, and a place is on the map just if it was; no condition. -/
import Derived.Test.YthfpdhhnokhldaaRows
import Derived.Test.YthfpdhhnokhldaaS27M
import Derived.Test.YthfpdhhnokhldaaEngX
set_option linter.unusedSimpArgs false
set_option linter.unusedVariables false
namespace Go.Proofs.Ythfpdhhnokhldaa.bivouacLand
open Go.ChangeShapes Go.WideShapes Go.ChangeAt Go.RowKit
theorem own : ownKnob Try.prog.godebug = none := by kernel_rfl
theorem laid : laidOutB Try.prog = true := by kernel_rfl
set_option maxRecDepth 100000 in
theorem lifted (os : Os) (started : os.Started) (H : Type) (enc : TypeId × Value → H) :
    ReturnsInHanded {} Try.checked os 3 .any (Rows.bivouacLandSpec.pre6 enc Try.prog Try.f3 Rows.bivouacLandRow.domain false) (Rows.bivouacLandSpec.post enc Try.prog Try.f3 false true false false) := by
  refine returnsInHanded_of_change_sized (C := Try.checked) own started (by kernel_rfl) Try.func3
    (ChangeSpec.witness6 (enc := enc) (C := Try.checked) false ⟨#[], #[.agg #[.int .i64 0, .int .i64 0, .int .i64 0, .slice none 0 0, .slice none 0 0, .int .i64 0, .int .i64 0]], []⟩ 8 (by kernel_rfl) (by kernel_rfl) (by kernel_rfl) (by kernel_rfl)) ?_
  intro W base args ds gs before hval0 hW hcnd hsz0 _
  have hval : ∀ (j : Nat) t v, Try.f3.params[j]? = some t → args[j]? = some v → Value.okWide Try.prog W .any base t v := hval0
  have hW' := hW
  obtain ⟨p, q, hA0, hV, rfl, hfz, hnd⟩ := hW
  have hA : DataW.TrodAll enc Try.prog W 0 (fun _ => true) true Try.f3.params.toList args.toList ds p := hA0
  have hlt := hA.lt
  rw [Try.params3] at hA hval
  obtain ⟨v0, vs0, d0, ds0, p0, q0, hargs, rfl, rfl, h0, r0⟩ := trodAll_cons hA
  obtain ⟨rfl, rfl, rfl⟩ := trodAll_nil r0
  obtain rfl : args = #[v0] := by cases args; simp_all
  obtain ⟨rfl, rfl⟩ := trodVars_none hV
  have k0 := h0
  obtain ⟨avs0, us0, rfl, hs0⟩ := Go.Eng.open_deep Try.underlying27 (hval 0 27 v0 rfl rfl) h0 (ks := [.int .i64, .int .i64, .int .i64, .sl [.int .u8], .sl [.int .i64, .int .i64, .int .i64, .int .i64], .int .i64, .int .i64]) (by kernel_rfl)
  obtain ⟨ul0⟩ := us0
  have hs0 : Go.Eng.DL _ _ _ ul0 := hs0
  obtain ⟨b0_0, as0_0, u0_0, ut0_0, eb0_0, e0_0, s0_0, hq0_0⟩ := hs0.head
  subst e0_0
  obtain ⟨a0_0, ea0_0, ev0_0, w0_0⟩ := s0_0.int_inv
  subst ev0_0
  obtain ⟨b0_1, as0_1, u0_1, ut0_1, eb0_1, e0_1, s0_1, hq0_1⟩ := hq0_0.head
  subst e0_1
  obtain ⟨a0_1, ea0_1, ev0_1, w0_1⟩ := s0_1.int_inv
  subst ev0_1
  obtain ⟨b0_2, as0_2, u0_2, ut0_2, eb0_2, e0_2, s0_2, hq0_2⟩ := hq0_1.head
  subst e0_2
  obtain ⟨a0_2, ea0_2, ev0_2, w0_2⟩ := s0_2.int_inv
  subst ev0_2
  obtain ⟨b0_3, as0_3, u0_3, ut0_3, eb0_3, e0_3, s0_3, hq0_3⟩ := hq0_2.head
  subst e0_3
  obtain ⟨n0_3, f0_3, g0_3, ea0_3, o0_3, vr0_3, nm0_3, fs0_3⟩ := s0_3.sl_inv
  have vs0_3 := fun ρ => Go.Eng.rs_congr (vr0_3 ρ) (Go.Eng.rowU_eq fs0_3).1
  obtain ⟨b0_4, as0_4, u0_4, ut0_4, eb0_4, e0_4, s0_4, hq0_4⟩ := hq0_3.head
  subst e0_4
  obtain ⟨n0_4, f0_4, g0_4, ea0_4, o0_4, vr0_4, nm0_4, fs0_4⟩ := s0_4.sl_inv
  have vs0_4 := fun ρ => Go.Eng.rs_congr (vr0_4 ρ) (Go.Eng.rowQ_eq fs0_4).1
  obtain ⟨b0_5, as0_5, u0_5, ut0_5, eb0_5, e0_5, s0_5, hq0_5⟩ := hq0_4.head
  subst e0_5
  obtain ⟨a0_5, ea0_5, ev0_5, w0_5⟩ := s0_5.int_inv
  subst ev0_5
  obtain ⟨b0_6, as0_6, u0_6, ut0_6, eb0_6, e0_6, s0_6, hq0_6⟩ := hq0_5.head
  subst e0_6
  obtain ⟨a0_6, ea0_6, ev0_6, w0_6⟩ := s0_6.int_inv
  subst ev0_6
  obtain ⟨_, ed0⟩ := hq0_6.done
  subst ed0
  clear hA0 hval0 hsz0
  have call := Go.Eng.row_true Go.Eng.S27.land_ok (W := W) (args := [.agg [.int .i64 a0_0, .int .i64 a0_1, .int .i64 a0_2, .rs 1 n0_3 false (Go.Eng.rowU f0_3), .rs 4 n0_4 false (Go.Eng.rowQ f0_4), .int .i64 a0_5, .int .i64 a0_6]]) (xs := [_])
    (.cons _ _ _ _ (.agg _ _ (.cons _ _ _ _ (.int _ _) rfl (.cons _ _ _ _ (.int _ _) rfl (.cons _ _ _ _ (.int _ _) rfl (.cons _ _ _ _ (vs0_3 _) o0_3 (.cons _ _ _ _ (vs0_4 _) o0_4 (.cons _ _ _ _ (.int _ _) rfl (.cons _ _ _ _ (.int _ _) rfl .nil)))))))) .nil) rfl (by
      intro q hq
      simp only [List.mem_cons, List.mem_nil_iff, or_false] at hq
      rcases hq with rfl
      · exact ⟨⟨Go.Eng.rowU_isU fs0_3, fun _ _ => rfl⟩, nm0_3, nm0_4⟩)
  refine call.mono fun e W' ⟨he, bel⟩ => ?_
  subst he
  exact ⟨_, rfl, _, _, _, [], _, [], hW', trodAll_mk1 (shut_bool Try.underlying4 _), (trodAll_cons_mk (Below.trod laid (by kernel_rfl) (of_decide_eq_true (by kernel_rfl)) k0 bel (fun x hx => hlt x (by simp [hx]))) trodAll_mk0), rfl, bel.frame _, fun h => by cases h⟩
theorem over : Rows.bivouacLandRow.holds Try.pinned (OpenSpec.ofChange Rows.bivouacLandSpec) :=
  OpenClaim.holds_of_wide 3 Try.f3 rfl rfl rfl rfl rfl rfl rfl ⟨rfl, rfl, rfl, rfl, rfl⟩ rfl rfl rfl rfl rfl (by kernel_rfl) Try.func3 (by kernel_rfl)
    (of_decide_eq_true (by kernel_rfl)) (by unfold Func.isWrapper; first | (rw [if_pos (by decide +kernel)]; kernel_rfl) | (rw [if_neg (by decide +kernel)]; exact ⟨rfl, rfl⟩))
    (fun os started H enc _ => lifted os started H enc)
theorem proved : Rows.BivouacLandSaid := over
end Go.Proofs.Ythfpdhhnokhldaa.bivouacLand
namespace Go.Proofs.Ythfpdhhnokhldaa
/-- The row, under a short name, for the claim. -/
theorem bivouacLand_holds : Rows.BivouacLandSaid := bivouacLand.proved
#print axioms bivouacLand_holds
end Go.Proofs.Ythfpdhhnokhldaa
