/- The statement TurnsPlays of seat Ytodnecfgiimclaa is proved: whatever peers issue, send, receive, in whatever order, whatever bytes come, what each answers, and its messages, are the document's; no condition. -/
import Derived.Test.YtodnecfgiimclaaRows
import Derived.Test.YtodnecfgiimclaaS25EM
import Derived.Test.YtodnecfgiimclaaEngX
set_option linter.unusedSimpArgs false
set_option linter.unusedVariables false
set_option maxHeartbeats 2000000
namespace Go.Proofs.Ytodnecfgiimclaa.turnsPlays
open Go.ChangeShapes Go.WideShapes Go.ChangeAt Go.RowKit
theorem own : ownKnob Try.prog.godebug = none := by kernel_rfl
theorem laid : laidOutB Try.prog = true := by kernel_rfl
set_option maxRecDepth 100000 in
theorem lifted (os : Os) (started : os.Started) (H : Type) (enc : TypeId × Value → H) :
 ReturnsInHanded {} Try.checked os 7 .any (Rows.turnsPlaysSpec.pre6 enc Try.prog Try.f7 Rows.turnsPlaysRow.domain false) (Rows.turnsPlaysSpec.post enc Try.prog Try.f7 false true false false) := by
 refine returnsInHanded_of_change_sized (C := Try.checked) own started (by kernel_rfl) Try.func7
  (ChangeSpec.witness6 (enc := enc) (C := Try.checked) false ⟨#[], #[.int .i64 0, .slice none 0 0], []⟩ 8 (by kernel_rfl) (by kernel_rfl) (by kernel_rfl) (by kernel_rfl)) ?_
 intro W base args ds gs before hval0 hW hcnd hsz0 _
 have hval : ∀ (j : Nat) t v, Try.f7.params[j]? = some t → args[j]? = some v → Value.okWide Try.prog W .any base t v := hval0
 have hW' := hW
 obtain ⟨p, q, hA0, hV, rfl, hfz, hnd⟩ := hW
 have hA : DataW.TrodAll enc Try.prog W 0 (fun _ => true) true Try.f7.params.toList args.toList ds p := hA0
 have hlt := hA.lt
 rw [Try.params7] at hA hval
 obtain ⟨v0, vs0, d0, ds0, p0, q0, hargs, rfl, rfl, h0, r0⟩ := trodAll_cons hA
 obtain ⟨v1, vs1, d1, ds1, p1, q1, rfl, rfl, rfl, h1, r1⟩ := trodAll_cons r0
 obtain ⟨rfl, rfl, rfl⟩ := trodAll_nil r1
 obtain rfl : args = #[v0, v1] := by cases args; simp_all
 obtain ⟨rfl, rfl⟩ := trodVars_none hV
 have k0 := h0
 have k1 := h1
 obtain ⟨a0, rfl, rfl, rfl, w0⟩ := open_int Try.underlying3 (hval 0 3 v0 rfl rfl) h0
 obtain ⟨aa1, hd1⟩ := Go.Eng.open_deepSl Try.underlying38 (hval 1 38 v1 rfl rfl) h1 (ks := [.int .i64, .int .i64, .int .i64, .int .i64, .int .u64, .sl [.int .u8]]) (by kernel_rfl)
 obtain ⟨n1, f1, g1, e1, oc1, vr1, nm1, fs1⟩ := hd1.sl_inv
 obtain ⟨acts1, va1, ha1⟩ := Go.Eng.S25.acts_in vr1 fs1
 clear hA0 hval0 hsz0
 have call := Go.Eng.row_true Go.Eng.S25.plays_ok (W := W) (args := [.int .i64 a0, .rs 6 n1 false fun j => Go.Eng.S25.actV (acts1 j)]) (xs := [.int .i64 a0, v1])
  (.cons _ _ _ _ (.int _ _) (.cons _ _ _ _ (va1 _) .nil)) rfl (by
    intro q hq
    rw [List.mem_singleton.1 hq]
    exact ⟨⟨acts1, fun j hj => ⟨rfl, ha1 j hj⟩⟩, nm1⟩)
 refine call.mono fun e W' ⟨he, bel⟩ => ?_
 subst he
 exact ⟨_, rfl, _, _, _, [], _, [], hW', trodAll_mk1 (shut_bool Try.underlying4 _), (trodAll_cons_mk (shut_int Try.underlying3 w0) (trodAll_cons_mk (Below.trod laid (by kernel_rfl) (of_decide_eq_true (by kernel_rfl)) k1 bel (fun x hx => hlt x (by simp [hx]))) trodAll_mk0)), rfl, bel.frame _, fun h => by cases h⟩
theorem over : Rows.turnsPlaysRow.holds Try.pinned (OpenSpec.ofChange Rows.turnsPlaysSpec) :=
 OpenClaim.holds_of_wide 7 Try.f7 rfl rfl rfl rfl rfl rfl rfl ⟨rfl, rfl, rfl, rfl, rfl⟩ rfl rfl rfl rfl rfl (by kernel_rfl) Try.func7 (by kernel_rfl)
  (of_decide_eq_true (by kernel_rfl)) (by unfold Func.isWrapper; first | (rw [if_pos (by decide +kernel)]; kernel_rfl) | (rw [if_neg (by decide +kernel)]; exact ⟨rfl, rfl⟩))
  (fun os started H enc _ => lifted os started H enc)
theorem proved : Rows.TurnsPlaysSaid := over
end Go.Proofs.Ytodnecfgiimclaa.turnsPlays
namespace Go.Proofs.Ytodnecfgiimclaa
theorem turnsPlays_holds : Rows.TurnsPlaysSaid := turnsPlays.proved
#print axioms turnsPlays_holds
end Go.Proofs.Ytodnecfgiimclaa