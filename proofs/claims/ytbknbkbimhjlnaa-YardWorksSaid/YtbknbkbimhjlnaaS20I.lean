/- The statement YardWorks of seat 20 is proved: how much is done behind any work at any scale is the document's, or it is refused; no condition. -/
import Derived.Test.YtbknbkbimhjlnaaRows
import Derived.Test.YtbknbkbimhjlnaaS20H
import Derived.Test.YtbknbkbimhjlnaaEngV
set_option linter.unusedSimpArgs false
set_option linter.unusedVariables false
namespace Go.Proofs.Ytbknbkbimhjlnaa.yardWorks
open Go.ChangeShapes Go.WideShapes Go.ChangeAt Go.RowKit
theorem own : ownKnob Try.prog.godebug = none := by kernel_rfl
theorem laid : laidOutB Try.prog = true := by kernel_rfl
set_option maxRecDepth 100000 in
theorem lifted (os : Os) (started : os.Started) (H : Type) (enc : TypeId × Value → H) :
    ReturnsInHanded {} Try.checked os 3 .any (Rows.yardWorksSpec.pre6 enc Try.prog Try.f3 Rows.yardWorksRow.domain false) (Rows.yardWorksSpec.post enc Try.prog Try.f3 false true false false) := by
  refine returnsInHanded_of_change_sized (C := Try.checked) own started (by kernel_rfl) Try.func3
    (ChangeSpec.witness6 (enc := enc) (C := Try.checked) false ⟨#[], #[.agg #[.int .i64 0, .int .i64 0, .int .i64 0, .int .i64 0], .int .i64 0, .int .i64 0], []⟩ 8 (by kernel_rfl) (by kernel_rfl) (by kernel_rfl) (by kernel_rfl)) ?_
  intro W base args ds gs before hval0 hW hcnd hsz0 _
  have hval : ∀ (j : Nat) t v, Try.f3.params[j]? = some t → args[j]? = some v → Value.okWide Try.prog W .any base t v := hval0
  have hW' := hW
  obtain ⟨p, q, hA0, hV, rfl, hfz, hnd⟩ := hW
  have hA : DataW.TrodAll enc Try.prog W 0 (fun _ => true) true Try.f3.params.toList args.toList ds p := hA0
  have hlt := hA.lt
  rw [Try.params3] at hA hval
  obtain ⟨v0, vs0, d0, ds0, p0, q0, hargs, rfl, rfl, h0, r0⟩ := trodAll_cons hA
  obtain ⟨v1, vs1, d1, ds1, p1, q1, rfl, rfl, rfl, h1, r1⟩ := trodAll_cons r0
  obtain ⟨v2, vs2, d2, ds2, p2, q2, rfl, rfl, rfl, h2, r2⟩ := trodAll_cons r1
  obtain ⟨rfl, rfl, rfl⟩ := trodAll_nil r2
  obtain rfl : args = #[v0, v1, v2] := by cases args; simp_all
  obtain ⟨rfl, rfl⟩ := trodVars_none hV
  have k0 := h0
  have k1 := h1
  have k2 := h2
  obtain ⟨avs, us, rfl, hs⟩ := Go.Eng.open_flat Try.underlying23 (hval 0 23 v0 rfl rfl) h0 (ks := [.int .i64, .int .i64, .int .i64, .int .i64]) (by kernel_rfl)
  obtain ⟨b0, as0, u0, us0, rfl, e0, s0, hs⟩ := hs.head
  obtain ⟨b1, as1, u1, us1, rfl, rfl, s1, hs⟩ := hs.head
  obtain ⟨b2, as2, u2, us2, rfl, rfl, s2, hs⟩ := hs.head
  obtain ⟨b3, as3, u3, us3, rfl, rfl, s3, hs⟩ := hs.head
  obtain ⟨rfl, rfl⟩ := hs.done
  obtain ⟨m, rfl, rfl, wm⟩ := s0.int_inv
  obtain ⟨en, rfl, rfl, we⟩ := s1.int_inv
  obtain ⟨n, rfl, rfl, wn⟩ := s2.int_inv
  obtain ⟨d, rfl, rfl, wd⟩ := s3.int_inv
  obtain rfl : us = #[.int .i64 m, .int .i64 en, .int .i64 n, .int .i64 d] := by cases us; simp_all
  obtain ⟨a1, rfl, rfl, rfl, w1⟩ := open_int Try.underlying3 (hval 1 3 v1 rfl rfl) h1
  obtain ⟨a2, rfl, rfl, rfl, w2⟩ := open_int Try.underlying2 (hval 2 2 v2 rfl rfl) h2
  clear hA0 hval0 hsz0
  have call := Go.Eng.row_true Go.Eng.S20.yardWorks_ok (W := W) (args := [.agg [.int .i64 m, .int .i64 en, .int .i64 n, .int .i64 d], .int .i64 a1, .int .i64 a2]) (xs := [.agg #[.int .i64 m, .int .i64 en, .int .i64 n, .int .i64 d], .int .i64 a1, .int .i64 a2])
    (.cons _ _ _ _ (.agg _ _ (.cons _ _ _ _ (.int _ _) rfl (.cons _ _ _ _ (.int _ _) rfl (.cons _ _ _ _ (.int _ _) rfl (.cons _ _ _ _ (.int _ _) rfl .nil))))) (.cons _ _ _ _ (.int _ _) (.cons _ _ _ _ (.int _ _) .nil))) rfl (by
      intro q hq
      simp only [List.mem_cons, List.mem_nil_iff, or_false] at hq
      rcases hq with rfl | rfl | rfl | rfl | rfl | rfl
      · exact bounds_i64 wm
      · exact bounds_i64 we
      · exact bounds_i64 wn
      · exact bounds_i64 wd
      · exact bounds_i64 w1
      · exact bounds_i64 w2)
  refine call.mono fun e W' ⟨he, bel⟩ => ?_
  subst he
  exact ⟨_, rfl, _, _, _, [], _, [], hW', trodAll_mk1 (shut_bool Try.underlying4 _), (trodAll_cons_mk (Below.trod laid (by kernel_rfl) (of_decide_eq_true (by kernel_rfl)) k0 bel (fun x hx => hlt x (List.mem_append_left _ hx))) (trodAll_cons_mk (shut_int Try.underlying3 w1) (trodAll_cons_mk (shut_int Try.underlying2 w2) trodAll_mk0))), rfl, bel.frame _, fun h => by cases h⟩
theorem over : Rows.yardWorksRow.holds Try.pinned (OpenSpec.ofChange Rows.yardWorksSpec) :=
  OpenClaim.holds_of_wide 3 Try.f3 rfl rfl rfl rfl rfl rfl rfl ⟨rfl, rfl, rfl, rfl, rfl⟩ rfl rfl rfl rfl rfl (by kernel_rfl) Try.func3 (by kernel_rfl)
    (of_decide_eq_true (by kernel_rfl)) (by unfold Func.isWrapper; first | (rw [if_pos (by decide +kernel)]; kernel_rfl) | (rw [if_neg (by decide +kernel)]; exact ⟨rfl, rfl⟩))
    (fun os started H enc _ => lifted os started H enc)
theorem proved : Rows.YardWorksSaid := over
end Go.Proofs.Ytbknbkbimhjlnaa.yardWorks
namespace Go.Proofs.Ytbknbkbimhjlnaa
/-- The row, under a short name, for the claim. -/
theorem yardWorks_holds : Rows.YardWorksSaid := yardWorks.proved
#print axioms yardWorks_holds
end Go.Proofs.Ytbknbkbimhjlnaa
