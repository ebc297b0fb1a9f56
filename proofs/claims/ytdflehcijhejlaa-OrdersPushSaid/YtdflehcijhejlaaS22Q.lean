/- The statement OrdersPush of seat Ytdflehcijhejlaa is proved: every queue goes on as the document says, or is refused; what was handed in stays; no condition. -/
import Derived.Test.YtdflehcijhejlaaRows
import Derived.Test.YtdflehcijhejlaaS22N
import Derived.Test.YtdflehcijhejlaaEngX
set_option linter.unusedSimpArgs false
set_option linter.unusedVariables false
namespace Go.Proofs.Ytdflehcijhejlaa.ordersPush
open Go.ChangeShapes Go.WideShapes Go.ChangeAt Go.RowKit
theorem own : ownKnob Try.prog.godebug = none := by kernel_rfl
theorem laid : laidOutB Try.prog = true := by kernel_rfl
set_option maxRecDepth 100000 in
theorem lifted (os : Os) (started : os.Started) (H : Type) (enc : TypeId × Value → H) :
    ReturnsInHanded {} Try.checked os 9 .any (Rows.ordersPushSpec.pre6 enc Try.prog Try.f9 Rows.ordersPushRow.domain false) (Rows.ordersPushSpec.post enc Try.prog Try.f9 false true false false) := by
  refine returnsInHanded_of_change_sized (C := Try.checked) own started (by kernel_rfl) Try.func9
    (ChangeSpec.witness6 (enc := enc) (C := Try.checked) false ⟨#[], #[.slice none 0 0, .agg #[.int .i64 0, .int .i64 0, .int .i64 0, .int .i64 0, .int .i64 0]], []⟩ 8 (by kernel_rfl) (by kernel_rfl) (by kernel_rfl) (by kernel_rfl)) ?_
  intro W base args ds gs before hval0 hW hcnd hsz0 _
  have hval : ∀ (j : Nat) t v, Try.f9.params[j]? = some t → args[j]? = some v → Value.okWide Try.prog W .any base t v := hval0
  have hW' := hW
  obtain ⟨p, q, hA0, hV, rfl, hfz, hnd⟩ := hW
  have hA : DataW.TrodAll enc Try.prog W 0 (fun _ => true) true Try.f9.params.toList args.toList ds p := hA0
  have hlt := hA.lt
  rw [Try.params9] at hA hval
  obtain ⟨v0, vs0, d0, ds0, p0, q0, hargs, rfl, rfl, h0, r0⟩ := trodAll_cons hA
  obtain ⟨v1, vs1, d1, ds1, p1, q1, rfl, rfl, rfl, h1, r1⟩ := trodAll_cons r0
  obtain ⟨rfl, rfl, rfl⟩ := trodAll_nil r1
  obtain rfl : args = #[v0, v1] := by cases args; simp_all
  obtain ⟨rfl, rfl⟩ := trodVars_none hV
  have k0 := h0
  have k1 := h1
  obtain ⟨n0, f0, g0, nm0, vr0, fs0⟩ := Go.Eng.open_slice (ks := [.int .i64, .int .i64, .int .i64, .int .i64, .int .i64]) Try.underlying23 (hval 0 23 v0 rfl rfl) h0 (by kernel_rfl) (by kernel_rfl) (by decide)
  obtain ⟨avs1, us1, rfl, hs1⟩ := Go.Eng.open_flat Try.underlying28 (hval 1 28 v1 rfl rfl) h1 (ks := [.int .i64, .int .i64, .int .i64, .int .i64, .int .i64]) (by kernel_rfl)
  obtain ⟨b1_0, as1_0, u1_0, uz1_0, rfl, e1, s1_0, hs1⟩ := hs1.head
  obtain ⟨b1_1, as1_1, u1_1, uz1_1, rfl, rfl, s1_1, hs1⟩ := hs1.head
  obtain ⟨b1_2, as1_2, u1_2, uz1_2, rfl, rfl, s1_2, hs1⟩ := hs1.head
  obtain ⟨b1_3, as1_3, u1_3, uz1_3, rfl, rfl, s1_3, hs1⟩ := hs1.head
  obtain ⟨b1_4, as1_4, u1_4, uz1_4, rfl, rfl, s1_4, hs1⟩ := hs1.head
  obtain ⟨rfl, rfl⟩ := hs1.done
  obtain ⟨a1_0, rfl, rfl, w1_0⟩ := s1_0.int_inv
  obtain ⟨a1_1, rfl, rfl, w1_1⟩ := s1_1.int_inv
  obtain ⟨a1_2, rfl, rfl, w1_2⟩ := s1_2.int_inv
  obtain ⟨a1_3, rfl, rfl, w1_3⟩ := s1_3.int_inv
  obtain ⟨a1_4, rfl, rfl, w1_4⟩ := s1_4.int_inv
  obtain rfl : us1 = #[.int .i64 a1_0, .int .i64 a1_1, .int .i64 a1_2, .int .i64 a1_3, .int .i64 a1_4] := by cases us1; simp_all
  clear hA0 hval0 hsz0
  have call := Go.Eng.row_true Go.Eng.S22.law_push_ok (W := W) (args := [.rs 5 n0 false fun i => Go.Eng.ofSc (f0 i), .agg [.int .i64 a1_0, .int .i64 a1_1, .int .i64 a1_2, .int .i64 a1_3, .int .i64 a1_4]]) (xs := [v0, .agg #[.int .i64 a1_0, .int .i64 a1_1, .int .i64 a1_2, .int .i64 a1_3, .int .i64 a1_4]])
    (.cons _ _ _ _ (vr0 _) (.cons _ _ _ _ (.agg _ _ (.cons _ _ _ _ (.int _ _) rfl (.cons _ _ _ _ (.int _ _) rfl (.cons _ _ _ _ (.int _ _) rfl (.cons _ _ _ _ (.int _ _) rfl (.cons _ _ _ _ (.int _ _) rfl .nil)))))) .nil)) rfl (by
      intro q hq
      simp only [List.mem_cons, List.mem_nil_iff, or_false] at hq
      rcases hq with rfl
      · exact ⟨fun i hi => Go.Eng.ofSc5 (fs0 i hi), nm0⟩)
  refine call.mono fun e W' ⟨he, bel⟩ => ?_
  subst he
  exact ⟨_, rfl, _, _, _, [], _, [], hW', trodAll_mk1 (shut_bool Try.underlying4 _), (trodAll_cons_mk (Below.trod laid (by kernel_rfl) (of_decide_eq_true (by kernel_rfl)) k0 bel (fun x hx => hlt x (by simp [hx]))) (trodAll_cons_mk (Below.trod laid (by kernel_rfl) (of_decide_eq_true (by kernel_rfl)) k1 bel (fun x hx => hlt x (by simp [hx]))) trodAll_mk0)), rfl, bel.frame _, fun h => by cases h⟩
theorem over : Rows.ordersPushRow.holds Try.pinned (OpenSpec.ofChange Rows.ordersPushSpec) :=
  OpenClaim.holds_of_wide 9 Try.f9 rfl rfl rfl rfl rfl rfl rfl ⟨rfl, rfl, rfl, rfl, rfl⟩ rfl rfl rfl rfl rfl (by kernel_rfl) Try.func9 (by kernel_rfl)
    (of_decide_eq_true (by kernel_rfl)) (by unfold Func.isWrapper; first | (rw [if_pos (by decide +kernel)]; kernel_rfl) | (rw [if_neg (by decide +kernel)]; exact ⟨rfl, rfl⟩))
    (fun os started H enc _ => lifted os started H enc)
theorem proved : Rows.OrdersPushSaid := over
end Go.Proofs.Ytdflehcijhejlaa.ordersPush
namespace Go.Proofs.Ytdflehcijhejlaa
/-- The row, under a short name, for the claim. -/
theorem ordersPush_holds : Rows.OrdersPushSaid := ordersPush.proved
#print axioms ordersPush_holds
end Go.Proofs.Ytdflehcijhejlaa
