/- The statement BivouacStores of seat Ythfpdhhnokhldaa is proved: of a purse that has what a site costs, and work of one or more a tick, the site is done in as few ticks as its need asks, and the purse is less by just what it costs; no condition. -/
import Derived.Test.YthfpdhhnokhldaaRows
import Derived.Test.YthfpdhhnokhldaaS26E
import Derived.Test.YthfpdhhnokhldaaEngX
set_option linter.unusedSimpArgs false
set_option linter.unusedVariables false
namespace Go.Proofs.Ythfpdhhnokhldaa.bivouacStores
open Go.ChangeShapes Go.WideShapes Go.ChangeAt Go.RowKit
theorem own : ownKnob Try.prog.godebug = none := by kernel_rfl
theorem laid : laidOutB Try.prog = true := by kernel_rfl
set_option maxRecDepth 100000 in
theorem lifted (os : Os) (started : os.Started) (H : Type) (enc : TypeId × Value → H) :
    ReturnsInHanded {} Try.checked os 4 .any (Rows.bivouacStoresSpec.pre6 enc Try.prog Try.f4 Rows.bivouacStoresRow.domain false) (Rows.bivouacStoresSpec.post enc Try.prog Try.f4 false true false false) := by
  refine returnsInHanded_of_change_sized (C := Try.checked) own started (by kernel_rfl) Try.func4
    (ChangeSpec.witness6 (enc := enc) (C := Try.checked) false ⟨#[], #[.agg #[.int .i64 0, .int .i64 0, .int .i64 0, .int .i64 0], .agg #[.int .i64 0, .int .i64 0, .int .i64 0, .int .i64 0], .int .i64 0], []⟩ 8 (by kernel_rfl) (by kernel_rfl) (by kernel_rfl) (by kernel_rfl)) ?_
  intro W base args ds gs before hval0 hW hcnd hsz0 _
  have hval : ∀ (j : Nat) t v, Try.f4.params[j]? = some t → args[j]? = some v → Value.okWide Try.prog W .any base t v := hval0
  have hW' := hW
  obtain ⟨p, q, hA0, hV, rfl, hfz, hnd⟩ := hW
  have hA : DataW.TrodAll enc Try.prog W 0 (fun _ => true) true Try.f4.params.toList args.toList ds p := hA0
  have hlt := hA.lt
  rw [Try.params4] at hA hval
  obtain ⟨v0, vs0, d0, ds0, p0, q0, hargs, rfl, rfl, h0, r0⟩ := trodAll_cons hA
  obtain ⟨v1, vs1, d1, ds1, p1, q1, rfl, rfl, rfl, h1, r1⟩ := trodAll_cons r0
  obtain ⟨v2, vs2, d2, ds2, p2, q2, rfl, rfl, rfl, h2, r2⟩ := trodAll_cons r1
  obtain ⟨rfl, rfl, rfl⟩ := trodAll_nil r2
  obtain rfl : args = #[v0, v1, v2] := by cases args; simp_all
  obtain ⟨rfl, rfl⟩ := trodVars_none hV
  have k0 := h0
  have k1 := h1
  have k2 := h2
  obtain ⟨avs0, us0, rfl, hs0⟩ := Go.Eng.open_flat Try.underlying43 (hval 0 43 v0 rfl rfl) h0 (ks := [.int .i64, .int .i64, .int .i64, .int .i64]) (by kernel_rfl)
  obtain ⟨b0_0, as0_0, u0_0, uz0_0, rfl, e0, s0_0, hs0⟩ := hs0.head
  obtain ⟨b0_1, as0_1, u0_1, uz0_1, rfl, rfl, s0_1, hs0⟩ := hs0.head
  obtain ⟨b0_2, as0_2, u0_2, uz0_2, rfl, rfl, s0_2, hs0⟩ := hs0.head
  obtain ⟨b0_3, as0_3, u0_3, uz0_3, rfl, rfl, s0_3, hs0⟩ := hs0.head
  obtain ⟨rfl, rfl⟩ := hs0.done
  obtain ⟨a0_0, rfl, rfl, w0_0⟩ := s0_0.int_inv
  obtain ⟨a0_1, rfl, rfl, w0_1⟩ := s0_1.int_inv
  obtain ⟨a0_2, rfl, rfl, w0_2⟩ := s0_2.int_inv
  obtain ⟨a0_3, rfl, rfl, w0_3⟩ := s0_3.int_inv
  obtain rfl : us0 = #[.int .i64 a0_0, .int .i64 a0_1, .int .i64 a0_2, .int .i64 a0_3] := by cases us0; simp_all
  obtain ⟨avs1, us1, rfl, hs1⟩ := Go.Eng.open_flat Try.underlying45 (hval 1 45 v1 rfl rfl) h1 (ks := [.int .i64, .int .i64, .int .i64, .int .i64]) (by kernel_rfl)
  obtain ⟨b1_0, as1_0, u1_0, uz1_0, rfl, e1, s1_0, hs1⟩ := hs1.head
  obtain ⟨b1_1, as1_1, u1_1, uz1_1, rfl, rfl, s1_1, hs1⟩ := hs1.head
  obtain ⟨b1_2, as1_2, u1_2, uz1_2, rfl, rfl, s1_2, hs1⟩ := hs1.head
  obtain ⟨b1_3, as1_3, u1_3, uz1_3, rfl, rfl, s1_3, hs1⟩ := hs1.head
  obtain ⟨rfl, rfl⟩ := hs1.done
  obtain ⟨a1_0, rfl, rfl, w1_0⟩ := s1_0.int_inv
  obtain ⟨a1_1, rfl, rfl, w1_1⟩ := s1_1.int_inv
  obtain ⟨a1_2, rfl, rfl, w1_2⟩ := s1_2.int_inv
  obtain ⟨a1_3, rfl, rfl, w1_3⟩ := s1_3.int_inv
  obtain rfl : us1 = #[.int .i64 a1_0, .int .i64 a1_1, .int .i64 a1_2, .int .i64 a1_3] := by cases us1; simp_all
  obtain ⟨a2, rfl, rfl, rfl, w2⟩ := open_int Try.underlying3 (hval 2 3 v2 rfl rfl) h2
  clear hA0 hval0 hsz0
  have call := Go.Eng.row_true Go.Eng.S26.stores_ok (W := W) (args := [.agg [.int .i64 a0_0, .int .i64 a0_1, .int .i64 a0_2, .int .i64 a0_3], .agg [.int .i64 a1_0, .int .i64 a1_1, .int .i64 a1_2, .int .i64 a1_3], .int .i64 a2]) (xs := [.agg #[.int .i64 a0_0, .int .i64 a0_1, .int .i64 a0_2, .int .i64 a0_3], .agg #[.int .i64 a1_0, .int .i64 a1_1, .int .i64 a1_2, .int .i64 a1_3], .int .i64 a2])
    (.cons _ _ _ _ (.agg _ _ (.cons _ _ _ _ (.int _ _) rfl (.cons _ _ _ _ (.int _ _) rfl (.cons _ _ _ _ (.int _ _) rfl (.cons _ _ _ _ (.int _ _) rfl .nil))))) (.cons _ _ _ _ (.agg _ _ (.cons _ _ _ _ (.int _ _) rfl (.cons _ _ _ _ (.int _ _) rfl (.cons _ _ _ _ (.int _ _) rfl (.cons _ _ _ _ (.int _ _) rfl .nil))))) (.cons _ _ _ _ (.int _ _) .nil))) rfl (by
      intro q hq
      cases hq)
  refine call.mono fun e W' ⟨he, bel⟩ => ?_
  subst he
  exact ⟨_, rfl, _, _, _, [], _, [], hW', trodAll_mk1 (shut_bool Try.underlying4 _), (trodAll_cons_mk (Below.trod laid (by kernel_rfl) (of_decide_eq_true (by kernel_rfl)) k0 bel (fun x hx => hlt x (by simp [hx]))) (trodAll_cons_mk (Below.trod laid (by kernel_rfl) (of_decide_eq_true (by kernel_rfl)) k1 bel (fun x hx => hlt x (by simp [hx]))) (trodAll_cons_mk (shut_int Try.underlying3 w2) trodAll_mk0))), rfl, bel.frame _, fun h => by cases h⟩
theorem over : Rows.bivouacStoresRow.holds Try.pinned (OpenSpec.ofChange Rows.bivouacStoresSpec) :=
  OpenClaim.holds_of_wide 4 Try.f4 rfl rfl rfl rfl rfl rfl rfl ⟨rfl, rfl, rfl, rfl, rfl⟩ rfl rfl rfl rfl rfl (by kernel_rfl) Try.func4 (by kernel_rfl)
    (of_decide_eq_true (by kernel_rfl)) (by unfold Func.isWrapper; first | (rw [if_pos (by decide +kernel)]; kernel_rfl) | (rw [if_neg (by decide +kernel)]; exact ⟨rfl, rfl⟩))
    (fun os started H enc _ => lifted os started H enc)
theorem proved : Rows.BivouacStoresSaid := over
end Go.Proofs.Ythfpdhhnokhldaa.bivouacStores
namespace Go.Proofs.Ythfpdhhnokhldaa
/-- The row, under a short name, for the claim. -/
theorem bivouacStores_holds : Rows.BivouacStoresSaid := bivouacStores.proved
#print axioms bivouacStores_holds
end Go.Proofs.Ythfpdhhnokhldaa
