/- Seat 20: the yard's 'Mend' and 'Reclaim' and the law's examples, walked: what each computes, for every argument that its contract names. -/
import Derived.Test.YtbknbkbimhjlnaaEngX
import Derived.Test.YtbknbkbimhjlnaaS20D
set_option linter.unusedSimpArgs false
set_option linter.unusedVariables false
namespace Go.Eng.S20
open Go.Proofs Go.IntWalk
set_option maxRecDepth 10000

def mokF (h most p : Int) : Bool := inR 1 9999 most && inR 0 most h && inR 0 16320 p
def mendF (h most p : Int) : Int := bif mokF h most p then clampF (IntKind.i64.wrap (h + p)) 0 most else 0
def sMend : Spec := fun args _ _ => match args with
  | [.int .i64 h, .int .i64 most, .int .i64 p] => some ⟨[], .tup [.int .i64 (mendF h most p), .int .i64 (errF (mokF h most p))], [], []⟩
  | _ => none
theorem mend_ok : SpecOK Try.prog 13 sMend := by
  refine spec_own (by kernel_rfl) T_ok (sget_cons within_ok (sget_cons strong_ok (sget_cons clamp_ok sget_nil))) Try.func13 rfl rfl fun args hr nb out e => ?_
  unfold sMend at e
  split at e
  · rename_i h most p
    injection e with e; subst e
    refine ⟨(fun _ h => nomatch h), true, [.int .i64 h, .int .i64 most, .int .i64 p], rfl, fun hs => ⟨.cons _ _ _ _ (.same _ _ (flat_of _ rfl).has) (.cons _ _ _ _ (.same _ _ (flat_of _ rfl).has) (.cons _ _ _ _ (.same _ _ (flat_of _ rfl).has) .nil)), ?_⟩⟩
    cases hA : inR 1 9999 most with
    | false =>
      refine evC_go0 (dec := []) (ks := [(0, 0), (0, 1), (0, 2), (0, 6), (0, 7)]) (s' := ⟨[(0, 0, Cont.cell (AV.int IntKind.i64 h)), (0, 1, Cont.cell (AV.int IntKind.i64 most)), (0, 2, Cont.cell (AV.int IntKind.i64 p)), (0, 6, Cont.cell (AV.int IntKind.i64 0)), (0, 7, Cont.cell (AV.int IntKind.i64 0))], 17, 29⟩) (by kernel_rfl) (by kernel_rfl) ?_
      refine evC_seq ?_
      refine evC_go (dec := [(5, false), (6, false), (7, false), (8, false), (9, false)]) (ks := [(0, 0), (0, 1), (0, 2), (0, 6), (0, 7), (0, 23)]) (ps := [(∀ (i : Nat), i < (1 : Nat) → pget [((0 : Nat), AV.int IntKind.i64 most)] i = AV.int IntKind.i64 (iv (pget [((0 : Nat), AV.int IntKind.i64 most)] i))) ∧ (1 : Nat) < (2 : Nat) ^ (63 : Nat), List.all [!!withinF (1 : Int) (9999 : Int) (1 : Nat) (pget [((0 : Nat), AV.int IntKind.i64 most)])] id = false, List.all [!!withinF (1 : Int) (9999 : Int) (1 : Nat) (pget [((0 : Nat), AV.int IntKind.i64 most)])] id = false, List.all [!!withinF (1 : Int) (9999 : Int) (1 : Nat) (pget [((0 : Nat), AV.int IntKind.i64 most)])] id = false, List.all [!!withinF (1 : Int) (9999 : Int) (1 : Nat) (pget [((0 : Nat), AV.int IntKind.i64 most)])] id = false, List.all [!!withinF (1 : Int) (9999 : Int) (1 : Nat) (pget [((0 : Nat), AV.int IntKind.i64 most)])] id = false, (!withinF (1 : Int) (9999 : Int) (1 : Nat) (pget [((0 : Nat), AV.int IntKind.i64 most)])) = true]) (s' := ⟨[(0, 0, Cont.cell (AV.int IntKind.i64 h)), (0, 1, Cont.cell (AV.int IntKind.i64 most)), (0, 2, Cont.cell (AV.int IntKind.i64 p)), (0, 6, Cont.cell (AV.int IntKind.i64 0)), (0, 7, Cont.cell (AV.int IntKind.i64 0)), (0, 23, Cont.cell (AV.bool true))], 145, 29⟩) (by kernel_rfl) (by kernel_rfl) ?_ ?_
      · simp only [All, lit1, ok1, small1, cond_or, id_one, id_one', hA, Bool.not_false, Bool.not_true, and_self]
      refine evC_if (q := true) (by kernel_rfl) (fun hc => ?_) (fun hc => ?_)
      · refine evC_go0 (dec := []) (ks := [(0, 0), (0, 1), (0, 2), (0, 6), (0, 7)]) (s' := ⟨[(0, 0, Cont.cell (AV.int IntKind.i64 h)), (0, 1, Cont.cell (AV.int IntKind.i64 most)), (0, 2, Cont.cell (AV.int IntKind.i64 p)), (0, 6, Cont.cell (AV.int IntKind.i64 0)), (0, 7, Cont.cell (AV.int IntKind.i64 1))], 161, 29⟩) (by kernel_rfl) (by kernel_rfl) ?_
        refine evC_ret ?_
        refine then_ret ?_
        refine post_ret ?_
        refine ends_flat (vs := [AV.int IntKind.i64 0, AV.int IntKind.i64 1]) (Nat.zero_lt_succ _) (by kernel_rfl) (flat_of _ (by kernel_rfl)) rfl ?_
        simp only [mendF, mokF, hA, Bool.false_and, cond_false, errF]
        rfl
      · simp [lit1, hA] at hc
    | true =>
      refine evC_go0 (dec := []) (ks := [(0, 0), (0, 1), (0, 2), (0, 6), (0, 7)]) (s' := ⟨[(0, 0, Cont.cell (AV.int IntKind.i64 h)), (0, 1, Cont.cell (AV.int IntKind.i64 most)), (0, 2, Cont.cell (AV.int IntKind.i64 p)), (0, 6, Cont.cell (AV.int IntKind.i64 0)), (0, 7, Cont.cell (AV.int IntKind.i64 0))], 17, 29⟩) (by kernel_rfl) (by kernel_rfl) ?_
      refine evC_seq ?_
      refine evC_go (dec := [(5, true), (6, true), (7, true), (8, true), (9, true)]) (ks := [(0, 0), (0, 1), (0, 2), (0, 6), (0, 7), (0, 23)]) (ps := [(∀ (i : Nat), i < (1 : Nat) → pget [((0 : Nat), AV.int IntKind.i64 most)] i = AV.int IntKind.i64 (iv (pget [((0 : Nat), AV.int IntKind.i64 most)] i))) ∧ (1 : Nat) < (2 : Nat) ^ (63 : Nat), List.all [!!withinF (1 : Int) (9999 : Int) (1 : Nat) (pget [((0 : Nat), AV.int IntKind.i64 most)])] id = true, List.all [!!withinF (1 : Int) (9999 : Int) (1 : Nat) (pget [((0 : Nat), AV.int IntKind.i64 most)])] id = true, List.all [!!withinF (1 : Int) (9999 : Int) (1 : Nat) (pget [((0 : Nat), AV.int IntKind.i64 most)])] id = true, List.all [!!withinF (1 : Int) (9999 : Int) (1 : Nat) (pget [((0 : Nat), AV.int IntKind.i64 most)])] id = true, (∀ (i : Nat), i < (1 : Nat) → pget [((0 : Nat), AV.int IntKind.i64 h)] i = AV.int IntKind.i64 (iv (pget [((0 : Nat), AV.int IntKind.i64 h)] i))) ∧ (1 : Nat) < (2 : Nat) ^ (63 : Nat), List.all [!!withinF (1 : Int) (9999 : Int) (1 : Nat) (pget [((0 : Nat), AV.int IntKind.i64 most)])] id = true]) (s' := ⟨[(0, 0, Cont.cell (AV.int IntKind.i64 h)), (0, 1, Cont.cell (AV.int IntKind.i64 most)), (0, 2, Cont.cell (AV.int IntKind.i64 p)), (0, 6, Cont.cell (AV.int IntKind.i64 0)), (0, 7, Cont.cell (AV.int IntKind.i64 0)), (0, 23, Cont.cell (AV.bool (bif bif !withinF 1 9999 1 (pget [(0, AV.int IntKind.i64 most)]) then true else !withinF 0 most 1 (pget [(0, AV.int IntKind.i64 h)]) then true else !inR 0 16320 p)))], 145, 29⟩) (by kernel_rfl) (by kernel_rfl) ?_ ?_
      · simp only [All, lit1, ok1, small1, cond_or, id_one, id_one', hA, Bool.not_false, Bool.not_true, and_self]
      refine evC_if (q := bif bif !withinF 1 9999 1 (pget [(0, AV.int IntKind.i64 most)]) then true else !withinF 0 most 1 (pget [(0, AV.int IntKind.i64 h)]) then true else !inR 0 16320 p) (by kernel_rfl) (fun hc => ?_) (fun hc => ?_)
      · refine evC_go0 (dec := []) (ks := [(0, 0), (0, 1), (0, 2), (0, 6), (0, 7)]) (s' := ⟨[(0, 0, Cont.cell (AV.int IntKind.i64 h)), (0, 1, Cont.cell (AV.int IntKind.i64 most)), (0, 2, Cont.cell (AV.int IntKind.i64 p)), (0, 6, Cont.cell (AV.int IntKind.i64 0)), (0, 7, Cont.cell (AV.int IntKind.i64 1))], 161, 29⟩) (by kernel_rfl) (by kernel_rfl) ?_
        refine evC_ret ?_
        refine then_ret ?_
        refine post_ret ?_
        refine ends_flat (vs := [AV.int IntKind.i64 0, AV.int IntKind.i64 1]) (Nat.zero_lt_succ _) (by kernel_rfl) (flat_of _ (by kernel_rfl)) rfl ?_
        have h : mokF h most p = false := by
          simp only [lit1, hA] at hc
          simp only [mokF, hA]
          revert hc
          cases inR 0 most h <;> cases inR 0 16320 p <;> simp
        simp only [mendF, h, cond_false, errF]
        rfl
      · refine evC_skip ?_
        refine then_normal ?_
        refine evC_go0 (dec := []) (ks := [(0, 6), (0, 7)]) (s' := ⟨[(0, 6, Cont.cell (AV.int IntKind.i64 (clampF (IntKind.i64.wrap (h + p)) 0 most))), (0, 7, Cont.cell (AV.int IntKind.i64 0))], 201, 29⟩) (by kernel_rfl) (by kernel_rfl) ?_
        refine evC_ret ?_
        refine post_ret ?_
        refine ends_flat (vs := [AV.int IntKind.i64 (clampF (IntKind.i64.wrap (h + p)) 0 most), AV.int IntKind.i64 0]) (Nat.zero_lt_succ _) (by kernel_rfl) (flat_of _ (by kernel_rfl)) rfl ?_
        have h : mokF h most p = true := by
          simp only [lit1, hA] at hc
          simp only [mokF, hA]
          revert hc
          cases inR 0 most h <;> cases inR 0 16320 p <;> simp
        simp only [mendF, h, cond_true, errF]
        rfl
  · cases e

def rokF (l p : Int) : Bool := inR 0 65535 l && inR 0 16320 p
def sReclaim : Spec := fun args _ _ => match args with
  | [.int .i64 l, .int .i64 p] => some ⟨[], .tup [.int .i64 (bif rokF l p then mn2 l p else 0), .int .i64 (bif rokF l p then IntKind.i64.wrap (l - mn2 l p) else 0), .int .i64 (errF (rokF l p))], [], []⟩
  | _ => none
theorem reclaim_ok : SpecOK Try.prog 14 sReclaim := by
  refine spec_own (by kernel_rfl) T_ok (sget_cons within_ok (sget_cons strong_ok (sget_cons clamp_ok sget_nil))) Try.func14 rfl rfl fun args hr nb out e => ?_
  unfold sReclaim at e
  split at e
  · rename_i l p
    injection e with e; subst e
    refine ⟨(fun _ h => nomatch h), true, [.int .i64 l, .int .i64 p], rfl, fun hs => ⟨.cons _ _ _ _ (.same _ _ (flat_of _ rfl).has) (.cons _ _ _ _ (.same _ _ (flat_of _ rfl).has) .nil), ?_⟩⟩
    refine evC_go0 (dec := []) (ks := [(0, 0), (0, 1), (0, 4), (0, 5), (0, 6)]) (s' := ⟨[(0, 0, Cont.cell (AV.int IntKind.i64 l)), (0, 1, Cont.cell (AV.int IntKind.i64 p)), (0, 4, Cont.cell (AV.int IntKind.i64 0)), (0, 5, Cont.cell (AV.int IntKind.i64 0)), (0, 6, Cont.cell (AV.int IntKind.i64 0))], 25, 24⟩) (by kernel_rfl) (by kernel_rfl) ?_
    refine evC_seq ?_
    refine evC_go (dec := []) (ks := [(0, 0), (0, 1), (0, 4), (0, 5), (0, 6), (0, 16)]) (ps := [(∀ (i : Nat), i < (1 : Nat) → pget [((0 : Nat), AV.int IntKind.i64 l)] i = AV.int IntKind.i64 (iv (pget [((0 : Nat), AV.int IntKind.i64 l)] i))) ∧ (1 : Nat) < (2 : Nat) ^ (63 : Nat)]) (s' := ⟨[(0, 0, Cont.cell (AV.int IntKind.i64 l)), (0, 1, Cont.cell (AV.int IntKind.i64 p)), (0, 4, Cont.cell (AV.int IntKind.i64 0)), (0, 5, Cont.cell (AV.int IntKind.i64 0)), (0, 6, Cont.cell (AV.int IntKind.i64 0)), (0, 16, Cont.cell (AV.bool (bif !withinF 0 65535 1 (pget [(0, AV.int IntKind.i64 l)]) then true else !inR 0 16320 p)))], 97, 24⟩) (by kernel_rfl) (by kernel_rfl) ?_ ?_
    · simp only [All, ok1, small1, and_self]
    refine evC_if (q := bif !withinF 0 65535 1 (pget [(0, AV.int IntKind.i64 l)]) then true else !inR 0 16320 p) (by kernel_rfl) (fun hc => ?_) (fun hc => ?_)
    · refine evC_go0 (dec := []) (ks := [(0, 0), (0, 1), (0, 4), (0, 5), (0, 6)]) (s' := ⟨[(0, 0, Cont.cell (AV.int IntKind.i64 l)), (0, 1, Cont.cell (AV.int IntKind.i64 p)), (0, 4, Cont.cell (AV.int IntKind.i64 0)), (0, 5, Cont.cell (AV.int IntKind.i64 0)), (0, 6, Cont.cell (AV.int IntKind.i64 1))], 121, 24⟩) (by kernel_rfl) (by kernel_rfl) ?_
      refine evC_ret ?_
      refine then_ret ?_
      refine post_ret ?_
      refine ends_flat (vs := [AV.int IntKind.i64 0, AV.int IntKind.i64 0, AV.int IntKind.i64 1]) (Nat.zero_lt_succ _) (by kernel_rfl) (flat_of _ (by kernel_rfl)) rfl ?_
      have h : rokF l p = false := by
        simp only [lit1] at hc
        simp only [rokF]
        revert hc
        cases inR 0 65535 l <;> cases inR 0 16320 p <;> simp
      simp only [h, cond_false, errF]
      rfl
    · refine evC_skip ?_
      refine then_normal ?_
      refine evC_go0 (dec := []) (ks := [(0, 0), (0, 4), (0, 5), (0, 6), (0, 7)]) (s' := ⟨[(0, 0, Cont.cell (AV.int IntKind.i64 l)), (0, 4, Cont.cell (AV.int IntKind.i64 0)), (0, 5, Cont.cell (AV.int IntKind.i64 0)), (0, 6, Cont.cell (AV.int IntKind.i64 0)), (0, 7, Cont.cell (AV.int IntKind.i64 (mn2 l p)))], 129, 24⟩) (by kernel_rfl) (by kernel_rfl) ?_
      refine evC_go0 (dec := []) (ks := [(0, 4), (0, 5), (0, 6)]) (s' := ⟨[(0, 4, Cont.cell (AV.int IntKind.i64 (mn2 l p))), (0, 5, Cont.cell (AV.int IntKind.i64 (IntKind.i64.wrap (l - mn2 l p)))), (0, 6, Cont.cell (AV.int IntKind.i64 0))], 185, 24⟩) (by kernel_rfl) (by kernel_rfl) ?_
      refine evC_ret ?_
      refine post_ret ?_
      refine ends_flat (vs := [AV.int IntKind.i64 (mn2 l p), AV.int IntKind.i64 (IntKind.i64.wrap (l - mn2 l p)), AV.int IntKind.i64 0]) (Nat.zero_lt_succ _) (by kernel_rfl) (flat_of _ (by kernel_rfl)) rfl ?_
      have h : rokF l p = true := by
        simp only [lit1] at hc
        simp only [rokF]
        revert hc
        cases inR 0 65535 l <;> cases inR 0 16320 p <;> simp
      simp only [h, cond_true, errF]
      rfl
  · cases e

def sTrue : Spec := fun args _ _ => match args with
  | [] => some ⟨[], .bool true, [], []⟩
  | _ => none
theorem awake_ok : SpecOK Try.prog 11 sTrue := by
  refine spec_own (by kernel_rfl) T_ok (sget_cons next_ok (sget_cons work_ok (sget_cons mend_ok (sget_cons reclaim_ok sget_nil)))) Try.func11 rfl rfl fun args hr nb out e => ?_
  unfold sTrue at e
  split at e
  · injection e with e; subst e
    refine ⟨(fun _ h => nomatch h), true, [], rfl, fun hs => ⟨.nil, ?_⟩⟩
    refine evC_go0 (dec := []) (ks := [(0, 0)]) (s' := ⟨[(0, 0, Cont.cell (AV.bool false))], 9, 75⟩) (by kernel_rfl) (by kernel_rfl) ?_
    refine evC_go0 (dec := []) (ks := [(0, 0), (0, 1), (17, 0), (17, 1), (17, 2), (17, 3), (17, 4)]) (s' := ⟨[(0, 0, Cont.cell (AV.bool false)), (0, 1, Cont.cell (AV.ptr 17 0)), (17, 0, Cont.cell (AV.int IntKind.i64 10)), (17, 1, Cont.cell (AV.int IntKind.i64 3)), (17, 2, Cont.cell (AV.int IntKind.i64 4)), (17, 3, Cont.cell (AV.int IntKind.i64 0)), (17, 4, Cont.top)], 33, 75⟩) (by kernel_rfl) (by kernel_rfl) ?_
    refine evC_go0 (dec := []) (ks := [(0, 0), (0, 1), (0, 2), (0, 3), (17, 0), (17, 1), (17, 2), (17, 3), (17, 4), (73, 0), (73, 1), (73, 2)]) (s' := ⟨[(0, 0, Cont.cell (AV.bool false)), (0, 1, Cont.cell (AV.ptr 17 0)), (0, 2, Cont.cell (AV.ptr 73 0)), (0, 3, Cont.cell (AV.int IntKind.i64 (errF (okF 10 3 4 0 1)))), (17, 0, Cont.cell (AV.int IntKind.i64 10)), (17, 1, Cont.cell (AV.int IntKind.i64 3)), (17, 2, Cont.cell (AV.int IntKind.i64 4)), (17, 3, Cont.cell (AV.int IntKind.i64 0)), (17, 4, Cont.top), (73, 0, Cont.cell (AV.int IntKind.i64 (nextF 10 4 0 1 (okF 10 3 4 0 1)))), (73, 1, Cont.cell (AV.int IntKind.i64 (nextF 3 4 0 1 (okF 10 3 4 0 1)))), (73, 2, Cont.top)], 97, 75⟩) (by kernel_rfl) (by kernel_rfl) ?_
    refine evC_go0 (dec := []) (ks := [(0, 0), (0, 2), (0, 3), (0, 4), (0, 5), (0, 6), (73, 0), (73, 1), (73, 2), (145, 0), (145, 1), (145, 2), (145, 3), (145, 4)]) (s' := ⟨[(0, 0, Cont.cell (AV.bool false)), (0, 2, Cont.cell (AV.ptr 73 0)), (0, 3, Cont.cell (AV.int IntKind.i64 (errF (okF 10 3 4 0 1)))), (0, 4, Cont.cell (AV.ptr 145 0)), (0, 5, Cont.cell (AV.bool false)), (0, 6, Cont.cell (AV.int IntKind.i64 (errF (wokF 10 3 4 0 3 32768)))), (73, 0, Cont.cell (AV.int IntKind.i64 (nextF 10 4 0 1 (okF 10 3 4 0 1)))), (73, 1, Cont.cell (AV.int IntKind.i64 (nextF 3 4 0 1 (okF 10 3 4 0 1)))), (73, 2, Cont.top), (145, 0, Cont.cell (AV.int IntKind.i64 (bif wokF 10 3 4 0 3 32768 then 10 else 0))), (145, 1, Cont.cell (AV.int IntKind.i64 (bif wokF 10 3 4 0 3 32768 then 3 else 0))), (145, 2, Cont.cell (AV.int IntKind.i64 (bif wokF 10 3 4 0 3 32768 then 4 else 0))), (145, 3, Cont.cell (AV.int IntKind.i64 (bif wokF 10 3 4 0 3 32768 then doneF 4 0 3 32768 else 0))), (145, 4, Cont.top)], 177, 75⟩) (by kernel_rfl) (by kernel_rfl) ?_
    refine evC_go0 (dec := []) (ks := [(0, 0), (0, 2), (0, 3), (0, 4), (0, 5), (0, 6), (0, 7), (0, 8), (73, 0), (73, 1), (73, 2), (145, 0), (145, 1), (145, 2), (145, 3), (145, 4)]) (s' := ⟨[(0, 0, Cont.cell (AV.bool false)), (0, 2, Cont.cell (AV.ptr 73 0)), (0, 3, Cont.cell (AV.int IntKind.i64 (errF (okF 10 3 4 0 1)))), (0, 4, Cont.cell (AV.ptr 145 0)), (0, 5, Cont.cell (AV.bool false)), (0, 6, Cont.cell (AV.int IntKind.i64 (errF (wokF 10 3 4 0 3 32768)))), (0, 7, Cont.cell (AV.int IntKind.i64 (mendF 5 9 7))), (0, 8, Cont.cell (AV.int IntKind.i64 (errF (mokF 5 9 7)))), (73, 0, Cont.cell (AV.int IntKind.i64 (nextF 10 4 0 1 (okF 10 3 4 0 1)))), (73, 1, Cont.cell (AV.int IntKind.i64 (nextF 3 4 0 1 (okF 10 3 4 0 1)))), (73, 2, Cont.top), (145, 0, Cont.cell (AV.int IntKind.i64 (bif wokF 10 3 4 0 3 32768 then 10 else 0))), (145, 1, Cont.cell (AV.int IntKind.i64 (bif wokF 10 3 4 0 3 32768 then 3 else 0))), (145, 2, Cont.cell (AV.int IntKind.i64 (bif wokF 10 3 4 0 3 32768 then 4 else 0))), (145, 3, Cont.cell (AV.int IntKind.i64 (bif wokF 10 3 4 0 3 32768 then doneF 4 0 3 32768 else 0))), (145, 4, Cont.top)], 225, 75⟩) (by kernel_rfl) (by kernel_rfl) ?_
    refine evC_go0 (dec := []) (ks := [(0, 0), (0, 2), (0, 3), (0, 4), (0, 5), (0, 6), (0, 7), (0, 8), (0, 9), (0, 10), (0, 11), (73, 0), (73, 1), (73, 2), (145, 0), (145, 1), (145, 2), (145, 3), (145, 4)]) (s' := ⟨[(0, 0, Cont.cell (AV.bool false)), (0, 2, Cont.cell (AV.ptr 73 0)), (0, 3, Cont.cell (AV.int IntKind.i64 (errF (okF 10 3 4 0 1)))), (0, 4, Cont.cell (AV.ptr 145 0)), (0, 5, Cont.cell (AV.bool false)), (0, 6, Cont.cell (AV.int IntKind.i64 (errF (wokF 10 3 4 0 3 32768)))), (0, 7, Cont.cell (AV.int IntKind.i64 (mendF 5 9 7))), (0, 8, Cont.cell (AV.int IntKind.i64 (errF (mokF 5 9 7)))), (0, 9, Cont.cell (AV.int IntKind.i64 (bif rokF 5 7 then mn2 5 7 else 0))), (0, 10, Cont.cell (AV.int IntKind.i64 (bif rokF 5 7 then IntKind.i64.wrap (5 - mn2 5 7) else 0))), (0, 11, Cont.cell (AV.int IntKind.i64 (errF (rokF 5 7)))), (73, 0, Cont.cell (AV.int IntKind.i64 (nextF 10 4 0 1 (okF 10 3 4 0 1)))), (73, 1, Cont.cell (AV.int IntKind.i64 (nextF 3 4 0 1 (okF 10 3 4 0 1)))), (73, 2, Cont.top), (145, 0, Cont.cell (AV.int IntKind.i64 (bif wokF 10 3 4 0 3 32768 then 10 else 0))), (145, 1, Cont.cell (AV.int IntKind.i64 (bif wokF 10 3 4 0 3 32768 then 3 else 0))), (145, 2, Cont.cell (AV.int IntKind.i64 (bif wokF 10 3 4 0 3 32768 then 4 else 0))), (145, 3, Cont.cell (AV.int IntKind.i64 (bif wokF 10 3 4 0 3 32768 then doneF 4 0 3 32768 else 0))), (145, 4, Cont.top)], 289, 75⟩) (by kernel_rfl) (by kernel_rfl) ?_
    refine evC_go0 (dec := []) (ks := [(0, 0)]) (s' := ⟨[(0, 0, Cont.cell (AV.bool true))], 633, 75⟩) (by kernel_rfl) (by kernel_rfl) ?_
    refine evC_ret ?_
    refine post_ret ?_
    refine ends_flat (vs := [AV.bool true]) (Nat.zero_lt_succ _) (by kernel_rfl) (flat_of _ (by kernel_rfl)) rfl ?_
    kernel_rfl
  · cases e
end Go.Eng.S20
