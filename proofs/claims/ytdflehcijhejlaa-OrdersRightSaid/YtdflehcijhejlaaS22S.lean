/- The statement OrdersRight of seat Ytdflehcijhejlaa is proved: who may be given an order is there, and one's own, and whom one may attack is there, another's, and known; one's own may always be stopped; no condition. -/
import Derived.Test.YtdflehcijhejlaaRows
import Derived.Test.YtdflehcijhejlaaS22R
import Derived.Test.YtdflehcijhejlaaEngX
set_option linter.unusedSimpArgs false
set_option linter.unusedVariables false
namespace Go.Proofs.Ytdflehcijhejlaa.ordersRight
open Go.ChangeShapes Go.WideShapes Go.ChangeAt Go.RowKit
theorem own : ownKnob Try.prog.godebug = none := by kernel_rfl
theorem laid : laidOutB Try.prog = true := by kernel_rfl
set_option maxRecDepth 100000 in
theorem lifted (os : Os) (started : os.Started) (H : Type) (enc : TypeId × Value → H) :
    ReturnsInHanded {} Try.checked os 8 .any (Rows.ordersRightSpec.pre6 enc Try.prog Try.f8 Rows.ordersRightRow.domain false) (Rows.ordersRightSpec.post enc Try.prog Try.f8 false true false false) := by
  refine returnsInHanded_of_change_sized (C := Try.checked) own started (by kernel_rfl) Try.func8
    (ChangeSpec.witness6 (enc := enc) (C := Try.checked) false ⟨#[], #[.agg #[.int .i64 0, .int .i64 0, .int .i64 0, .int .i64 0, .int .i64 0, .int .i64 0, .int .i64 0, .int .i64 0, .int .i64 0, .int .i64 0, .int .i64 0, .int .i64 0, .int .i64 0, .int .i64 0, .int .i64 0, .int .i64 0, .int .i64 0, .int .i64 0, .int .i64 0, .int .i64 0, .int .i64 0, .int .i64 0, .int .i64 0, .int .i64 0, .int .i64 0, .int .i64 0, .int .i64 0, .int .i64 0, .int .i64 0, .int .i64 0, .int .i64 0, .int .i64 0, .int .i64 0, .int .i64 0, .int .i64 0, .int .i64 0, .int .i64 0, .int .i64 0, .int .i64 0, .int .i64 0, .int .i64 0, .int .i64 0, .int .i64 0, .int .i64 0, .int .i64 0, .int .i64 0, .int .i64 0, .int .i64 0, .int .i64 0, .int .i64 0, .int .i64 0, .int .i64 0, .int .i64 0, .int .i64 0, .int .i64 0, .int .i64 0, .int .i64 0, .int .i64 0, .int .i64 0, .int .i64 0, .int .i64 0, .int .i64 0, .int .i64 0, .int .i64 0, .bool false, .bool false, .bool false, .bool false, .bool false, .bool false, .bool false, .bool false, .bool false, .bool false, .bool false, .bool false, .bool false, .bool false, .bool false, .bool false, .bool false, .bool false, .bool false, .bool false, .bool false, .bool false, .bool false, .bool false, .bool false, .bool false, .bool false, .bool false, .bool false, .bool false, .bool false, .bool false, .bool false, .bool false, .bool false, .bool false, .bool false, .bool false, .bool false, .bool false, .bool false, .bool false, .bool false, .bool false, .bool false, .bool false, .bool false, .bool false, .bool false, .bool false, .bool false, .bool false, .bool false, .bool false, .bool false, .bool false, .bool false, .bool false, .bool false, .bool false, .bool false, .bool false, .bool false, .bool false, .int .i64 0, .int .i64 0, .int .i64 0, .int .i64 0, .int .i64 0, .int .i64 0, .int .i64 0, .int .i64 0, .int .i64 0, .int .i64 0, .int .i64 0, .int .i64 0, .int .i64 0, .int .i64 0, .int .i64 0, .int .i64 0, .int .i64 0, .int .i64 0, .int .i64 0, .int .i64 0, .int .i64 0, .int .i64 0, .int .i64 0, .int .i64 0, .int .i64 0, .int .i64 0, .int .i64 0, .int .i64 0, .int .i64 0, .int .i64 0, .int .i64 0, .int .i64 0, .int .i64 0, .int .i64 0, .int .i64 0, .int .i64 0, .int .i64 0, .int .i64 0, .int .i64 0, .int .i64 0, .int .i64 0, .int .i64 0, .int .i64 0, .int .i64 0, .int .i64 0, .int .i64 0, .int .i64 0, .int .i64 0, .int .i64 0, .int .i64 0, .int .i64 0, .int .i64 0, .int .i64 0, .int .i64 0, .int .i64 0, .int .i64 0, .int .i64 0, .int .i64 0, .int .i64 0, .int .i64 0, .int .i64 0, .int .i64 0, .int .i64 0, .int .i64 0, .int .i64 0, .int .i64 0, .int .i64 0, .bool false, .bool false, .bool false, .bool false, .bool false, .bool false, .bool false, .bool false, .bool false, .bool false, .bool false, .bool false, .bool false, .bool false, .bool false, .bool false, .bool false, .bool false, .bool false, .bool false, .bool false, .bool false, .bool false, .bool false, .bool false, .bool false, .bool false, .bool false, .bool false, .bool false, .bool false, .bool false, .bool false, .bool false, .bool false, .bool false, .bool false, .bool false, .bool false, .bool false, .bool false, .bool false, .bool false, .bool false, .bool false, .bool false, .bool false, .bool false, .bool false, .bool false, .bool false, .bool false, .bool false, .bool false, .bool false, .bool false, .bool false, .bool false, .bool false, .bool false, .bool false, .bool false, .bool false, .bool false], .int .i64 0, .agg #[.int .i64 0, .int .i64 0, .int .i64 0, .int .i64 0, .int .i64 0]], []⟩ 8 (by kernel_rfl) (by kernel_rfl) (by kernel_rfl) (by kernel_rfl)) ?_
  intro W base args ds gs before hval0 hW hcnd hsz0 _
  have hval : ∀ (j : Nat) t v, Try.f8.params[j]? = some t → args[j]? = some v → Value.okWide Try.prog W .any base t v := hval0
  have hW' := hW
  obtain ⟨p, q, hA0, hV, rfl, hfz, hnd⟩ := hW
  have hA : DataW.TrodAll enc Try.prog W 0 (fun _ => true) true Try.f8.params.toList args.toList ds p := hA0
  have hlt := hA.lt
  rw [Try.params8] at hA hval
  obtain ⟨v0, vs0, d0, ds0, p0, q0, hargs, rfl, rfl, h0, r0⟩ := trodAll_cons hA
  obtain ⟨v1, vs1, d1, ds1, p1, q1, rfl, rfl, rfl, h1, r1⟩ := trodAll_cons r0
  obtain ⟨v2, vs2, d2, ds2, p2, q2, rfl, rfl, rfl, h2, r2⟩ := trodAll_cons r1
  obtain ⟨rfl, rfl, rfl⟩ := trodAll_nil r2
  obtain rfl : args = #[v0, v1, v2] := by cases args; simp_all
  obtain ⟨rfl, rfl⟩ := trodVars_none hV
  have k0 := h0
  have k1 := h1
  have k2 := h2
  obtain ⟨avs0, us0, rfl, hs0⟩ := Go.Eng.open_flat Try.underlying45 (hval 0 45 v0 rfl rfl) h0 (ks := Go.Eng.repL 64 [.int .i64] ++ (Go.Eng.repL 64 [.bool] ++ (Go.Eng.repL 64 [.int .i64] ++ (.int .i64 :: (.int .i64 :: (.int .i64 :: (Go.Eng.repL 64 [.bool] ++ ([])))))))) (by kernel_rfl)
  obtain ⟨ul0⟩ := us0
  have hs0 : Go.Eng.ScL _ _ ul0 := hs0
  obtain ⟨F0_0, xs0_0, as0_0, ut0_0, e0_0, hl0_0, hx0_0, hq0_0⟩ := hs0.intRow
  subst e0_0
  obtain ⟨F0_1, xs0_1, as0_1, ut0_1, e0_1, hl0_1, hx0_1, hq0_1⟩ := hq0_0.boolRow
  subst e0_1
  obtain ⟨F0_2, xs0_2, as0_2, ut0_2, e0_2, hl0_2, hx0_2, hq0_2⟩ := hq0_1.intRow
  subst e0_2
  obtain ⟨b0_3, as0_3, u0_3, ut0_3, eb0_3, e0_3, s0_3, hq0_3⟩ := hq0_2.head
  subst e0_3
  obtain ⟨a0_3, ea0_3, ev0_3, w0_3⟩ := s0_3.int_inv
  subst ev0_3
  obtain ⟨b0_4, as0_4, u0_4, ut0_4, eb0_4, e0_4, s0_4, hq0_4⟩ := hq0_3.head
  subst e0_4
  obtain ⟨a0_4, ea0_4, ev0_4, w0_4⟩ := s0_4.int_inv
  subst ev0_4
  obtain ⟨b0_5, as0_5, u0_5, ut0_5, eb0_5, e0_5, s0_5, hq0_5⟩ := hq0_4.head
  subst e0_5
  obtain ⟨a0_5, ea0_5, ev0_5, w0_5⟩ := s0_5.int_inv
  subst ev0_5
  obtain ⟨F0_6, xs0_6, as0_6, ut0_6, e0_6, hl0_6, hx0_6, hq0_6⟩ := hq0_5.boolRow
  subst e0_6
  obtain ⟨_, ed0⟩ := hq0_6.done
  subst ed0
  obtain ⟨a1, rfl, rfl, rfl, w1⟩ := open_int Try.underlying3 (hval 1 3 v1 rfl rfl) h1
  obtain ⟨avs2, us2, rfl, hs2⟩ := Go.Eng.open_flat Try.underlying28 (hval 2 28 v2 rfl rfl) h2 (ks := [.int .i64, .int .i64, .int .i64, .int .i64, .int .i64]) (by kernel_rfl)
  obtain ⟨b2_0, as2_0, u2_0, uz2_0, rfl, e2, s2_0, hs2⟩ := hs2.head
  obtain ⟨b2_1, as2_1, u2_1, uz2_1, rfl, rfl, s2_1, hs2⟩ := hs2.head
  obtain ⟨b2_2, as2_2, u2_2, uz2_2, rfl, rfl, s2_2, hs2⟩ := hs2.head
  obtain ⟨b2_3, as2_3, u2_3, uz2_3, rfl, rfl, s2_3, hs2⟩ := hs2.head
  obtain ⟨b2_4, as2_4, u2_4, uz2_4, rfl, rfl, s2_4, hs2⟩ := hs2.head
  obtain ⟨rfl, rfl⟩ := hs2.done
  obtain ⟨a2_0, rfl, rfl, w2_0⟩ := s2_0.int_inv
  obtain ⟨a2_1, rfl, rfl, w2_1⟩ := s2_1.int_inv
  obtain ⟨a2_2, rfl, rfl, w2_2⟩ := s2_2.int_inv
  obtain ⟨a2_3, rfl, rfl, w2_3⟩ := s2_3.int_inv
  obtain ⟨a2_4, rfl, rfl, w2_4⟩ := s2_4.int_inv
  obtain rfl : us2 = #[.int .i64 a2_0, .int .i64 a2_1, .int .i64 a2_2, .int .i64 a2_3, .int .i64 a2_4] := by cases us2; simp_all
  clear hA0 hval0 hsz0
  have call := Go.Eng.row_true Go.Eng.S22.law_right_ok (W := W) (args := [.agg [.arr 64 fun i => .int .i64 (F0_0 i), .arr 64 fun i => .bool (F0_1 i), .arr 64 fun i => .int .i64 (F0_2 i), .int .i64 a0_3, .int .i64 a0_4, .int .i64 a0_5, .arr 64 fun i => .bool (F0_6 i)], .int .i64 a1, .agg [.int .i64 a2_0, .int .i64 a2_1, .int .i64 a2_2, .int .i64 a2_3, .int .i64 a2_4]]) (xs := [_, .int .i64 a1, .agg #[.int .i64 a2_0, .int .i64 a2_1, .int .i64 a2_2, .int .i64 a2_3, .int .i64 a2_4]])
    (.cons _ _ _ _ (.agg _ _ (Go.Eng.CRel.intRow hl0_0 hx0_0 (Go.Eng.CRel.boolRow hl0_1 hx0_1 (Go.Eng.CRel.intRow hl0_2 hx0_2 (.cons _ _ _ _ (.int _ _) rfl (.cons _ _ _ _ (.int _ _) rfl (.cons _ _ _ _ (.int _ _) rfl (Go.Eng.CRel.boolRow hl0_6 hx0_6 .nil)))))))) (.cons _ _ _ _ (.int _ _) (.cons _ _ _ _ (.agg _ _ (.cons _ _ _ _ (.int _ _) rfl (.cons _ _ _ _ (.int _ _) rfl (.cons _ _ _ _ (.int _ _) rfl (.cons _ _ _ _ (.int _ _) rfl (.cons _ _ _ _ (.int _ _) rfl .nil)))))) .nil))) rfl (by
      intro q hq
      simp only [List.mem_cons, List.mem_nil_iff, or_false] at hq
      rcases hq with rfl
      · exact Go.Eng.S22.isSc _ _ _ _)
  refine call.mono fun e W' ⟨he, bel⟩ => ?_
  subst he
  exact ⟨_, rfl, _, _, _, [], _, [], hW', trodAll_mk1 (shut_bool Try.underlying4 _), (trodAll_cons_mk (Below.trod laid (by kernel_rfl) (of_decide_eq_true (by kernel_rfl)) k0 bel (fun x hx => hlt x (by simp [hx]))) (trodAll_cons_mk (shut_int Try.underlying3 w1) (trodAll_cons_mk (Below.trod laid (by kernel_rfl) (of_decide_eq_true (by kernel_rfl)) k2 bel (fun x hx => hlt x (by simp [hx]))) trodAll_mk0))), rfl, bel.frame _, fun h => by cases h⟩
theorem over : Rows.ordersRightRow.holds Try.pinned (OpenSpec.ofChange Rows.ordersRightSpec) :=
  OpenClaim.holds_of_wide 8 Try.f8 rfl rfl rfl rfl rfl rfl rfl ⟨rfl, rfl, rfl, rfl, rfl⟩ rfl rfl rfl rfl rfl (by kernel_rfl) Try.func8 (by kernel_rfl)
    (of_decide_eq_true (by kernel_rfl)) (by unfold Func.isWrapper; first | (rw [if_pos (by decide +kernel)]; kernel_rfl) | (rw [if_neg (by decide +kernel)]; exact ⟨rfl, rfl⟩))
    (fun os started H enc _ => lifted os started H enc)
theorem proved : Rows.OrdersRightSaid := over
end Go.Proofs.Ytdflehcijhejlaa.ordersRight
namespace Go.Proofs.Ytdflehcijhejlaa
/-- The row, under a short name, for the claim. -/
theorem ordersRight_holds : Rows.OrdersRightSaid := ordersRight.proved
#print axioms ordersRight_holds
end Go.Proofs.Ytdflehcijhejlaa
