/- Seat 22: orders of the form, walked. -/
import Derived.Test.YtdflehcijhejlaaEngX
import Derived.Test.YtdflehcijhejlaaEngX
import Derived.Test.YtdflehcijhejlaaProg
set_option linter.unusedSimpArgs false
set_option linter.unusedVariables false
namespace Go.Eng.S22
open Go.Proofs Go.IntWalk
def T : Tab := [(2, ⟨1, 8, .int .i64, [.int .i64 0]⟩),
  (3, ⟨1, 8, .int .i64, [.int .i64 0]⟩),
  (4, ⟨1, 1, .bool, [.bool false]⟩),
  (5, ⟨1, 1, .int .u8, [.int .u8 0]⟩),
  (9, ⟨1, 16, .str, [.str ⟨⟨[]⟩⟩]⟩),
  (23, ⟨1, 24, .slice 28, [.nils]⟩),
  (25, ⟨1, 24, .slice 5, [.nils]⟩),
  (28, ⟨5, 40, .struct [(0, 3, 1), (1, 3, 1), (2, 3, 1), (3, 3, 1), (4, 3, 1)], [.int .i64 0, .int .i64 0, .int .i64 0, .int .i64 0, .int .i64 0]⟩),
  (32, ⟨1, 8, .int .i64, [.int .i64 0]⟩),
  (40, ⟨64, 512, .array 64 3, [.arr 64 fun x => .int .i64 0]⟩),
  (41, ⟨64, 64, .array 64 4, [.arr 64 fun x => .bool false]⟩),
  (43, ⟨128, 576, .struct [(0, 40, 64), (64, 41, 64)], [.arr 64 fun x => .int .i64 0, .arr 64 fun x => .bool false]⟩),
  (45, ⟨259, 1176, .struct [(0, 43, 128), (128, 40, 64), (192, 3, 1), (193, 3, 1), (194, 3, 1), (195, 41, 64)], [.arr 64 fun x => .int .i64 0, .arr 64 fun x => .bool false, .arr 64 fun x => .int .i64 0, .int .i64 0, .int .i64 0, .int .i64 0, .arr 64 fun x => .bool false]⟩),
  (63, ⟨1, 8, .int .u64, [.int .u64 0]⟩)]
theorem T_ok : TabOK Try.prog T := by
  have e : tabOf Try.prog [2, 3, 4, 5, 9, 23, 25, 28, 32, 40, 41, 43, 45, 63] = T := by kernel_rfl
  exact e ▸ tabOf_sound Try.prog [2, 3, 4, 5, 9, 23, 25, 28, 32, 40, 41, 43, 45, 63]
set_option maxRecDepth 10000

/-- An order. -/
def od (k u i j t : Int) : AV := .agg [.int .i64 k, .int .i64 u, .int .i64 i, .int .i64 j, .int .i64 t]
theorem od_flat (k u i j t : Int) : Flat (od k u i j t) := flat_of _ rfl
def inB (v e : Int) : Bool := decide (0 ≤ v) && decide (v < e)
def sIn : Spec := fun args _ _ => match args with
  | [.int .i64 v, .int .i64 e] => some ⟨[], .bool (inB v e), [], []⟩
  | _ => none
theorem in_eq (v e : Int) : (bif decide (v ≥ 0) then decide (v < e) else false) = inB v e := by
  rw [cond_and]; rfl
theorem within_ok : SpecOK Try.prog 22 sIn := by
  refine spec_own (by kernel_rfl) T_ok sget_nil Try.func22 rfl rfl fun args hr nb out e => ?_
  unfold sIn at e
  split at e
  · rename_i v k
    injection e with e; subst e
    refine ⟨(fun _ h => nomatch h), true, [.int .i64 v, .int .i64 k], rfl, fun _ => ⟨.cons _ _ _ _ (.same _ _ (.int _ _)) (.cons _ _ _ _ (.same _ _ (.int _ _)) .nil), ?_⟩⟩
    refine evC_go0 (dec := []) (ks := [(0, 0), (0, 1), (0, 4)]) (s' := ⟨[(0, 0, Cont.cell (AV.int IntKind.i64 v)), (0, 1, Cont.cell (AV.int IntKind.i64 k)), (0, 4, Cont.cell (AV.bool false))], 9, 12⟩) (by kernel_rfl) (by kernel_rfl) ?_
    refine evC_go0 (dec := []) (ks := [(0, 4)]) (s' := ⟨[(0, 4, Cont.cell (AV.bool (bif decide (v ≥ 0) then decide (v < k) else false)))], 73, 12⟩) (by kernel_rfl) (by kernel_rfl) ?_
    refine evC_ret ?_
    refine post_ret ?_
    refine ends_flat (vs := [AV.bool (bif decide (v ≥ 0) then decide (v < k) else false)]) (Nat.zero_lt_succ _) (by kernel_rfl) (flat_of _ (by kernel_rfl)) rfl ?_
    rw [in_eq]; rfl
  · cases e
theorem in_ok : SpecOK Try.prog 23 sIn := by
  refine spec_own (by kernel_rfl) T_ok sget_nil Try.func23 rfl rfl fun args hr nb out e => ?_
  unfold sIn at e
  split at e
  · rename_i v k
    injection e with e; subst e
    refine ⟨(fun _ h => nomatch h), true, [.int .i64 v, .int .i64 k], rfl, fun _ => ⟨.cons _ _ _ _ (.same _ _ (.int _ _)) (.cons _ _ _ _ (.same _ _ (.int _ _)) .nil), ?_⟩⟩
    refine evC_go0 (dec := []) (ks := [(0, 0), (0, 1), (0, 4)]) (s' := ⟨[(0, 0, Cont.cell (AV.int IntKind.i64 v)), (0, 1, Cont.cell (AV.int IntKind.i64 k)), (0, 4, Cont.cell (AV.bool false))], 9, 12⟩) (by kernel_rfl) (by kernel_rfl) ?_
    refine evC_go0 (dec := []) (ks := [(0, 4)]) (s' := ⟨[(0, 4, Cont.cell (AV.bool (bif decide (0 ≤ v) then decide (v < k) else false)))], 73, 12⟩) (by kernel_rfl) (by kernel_rfl) ?_
    refine evC_ret ?_
    refine post_ret ?_
    refine ends_flat (vs := [AV.bool (bif decide (0 ≤ v) then decide (v < k) else false)]) (Nat.zero_lt_succ _) (by kernel_rfl) (flat_of _ (by kernel_rfl)) rfl ?_
    refine congrArg AV.bool ?_
    exact (cond_and _ _).symm
  · cases e

def frK (k i j t : Int) : Bool := bif k == 3 then decide (t < 16) else bif k == 0 then t == 0 && (i == 0 && j == 0) else bif k == 2 then i == 0 && j == 0 else bif k == 1 || k == 4 then t == 0 else false
def frm (k u i j t : Int) : Bool := inB u 67108864 && inB t 67108864 && inB i 64 && inB j 64 && frK k i j t
def sForm : Spec := fun args _ _ => match args with
  | [.agg [.int .i64 k, .int .i64 u, .int .i64 i, .int .i64 j, .int .i64 t]] => some ⟨[], .bool (frm k u i j t), [], []⟩
  | _ => none
theorem form_ok : SpecOK Try.prog 12 sForm := by
  refine spec_own (by kernel_rfl) T_ok (sget_cons within_ok sget_nil) Try.func12 rfl rfl fun args hr nb out e => ?_
  unfold sForm at e
  split at e
  · rename_i k u i j t
    injection e with e; subst e
    refine ⟨(fun _ h => nomatch h), true, [od k u i j t], rfl, fun _ => ⟨.cons _ _ _ _ (.same _ _ (od_flat _ _ _ _ _).has) .nil, ?_⟩⟩
    unfold od
    have h0 : (bif bif bif !inB u 67108864 then true else !inB t 67108864 then true else !inB i 64 then true else !inB j 64) = !(inB u 67108864 && inB t 67108864 && inB i 64 && inB j 64) := by
      cases inB u 67108864 <;> cases inB t 67108864 <;> cases inB i 64 <;> cases inB j 64 <;> rfl
    refine evC_go0 (dec := []) (ks := [(0, 1), (0, 2), (1, 0), (1, 1), (1, 2), (1, 3), (1, 4), (1, 5)]) (s' := ⟨[(0, 1, Cont.cell (AV.ptr 1 0)), (0, 2, Cont.cell (AV.bool false)), (1, 0, Cont.cell (AV.int IntKind.i64 k)), (1, 1, Cont.cell (AV.int IntKind.i64 u)), (1, 2, Cont.cell (AV.int IntKind.i64 i)), (1, 3, Cont.cell (AV.int IntKind.i64 j)), (1, 4, Cont.cell (AV.int IntKind.i64 t)), (1, 5, Cont.top)], 17, 53⟩) (by kernel_rfl) (by kernel_rfl) ?_
    refine evC_seq ?_
    refine evC_go0 (dec := []) (ks := [(0, 1), (0, 2), (0, 24), (1, 0), (1, 1), (1, 2), (1, 3), (1, 4), (1, 5)]) (s' := ⟨[(0, 1, Cont.cell (AV.ptr 1 0)), (0, 2, Cont.cell (AV.bool false)), (0, 24, Cont.cell (AV.bool (bif bif bif !inB u 67108864 then true else !inB t 67108864 then true else !inB i 64 then true else !inB j 64))), (1, 0, Cont.cell (AV.int IntKind.i64 k)), (1, 1, Cont.cell (AV.int IntKind.i64 u)), (1, 2, Cont.cell (AV.int IntKind.i64 i)), (1, 3, Cont.cell (AV.int IntKind.i64 j)), (1, 4, Cont.cell (AV.int IntKind.i64 t)), (1, 5, Cont.top)], 193, 53⟩) (by kernel_rfl) (by kernel_rfl) ?_
    rw [h0]
    refine evC_if (q := !(inB u 67108864 && inB t 67108864 && inB i 64 && inB j 64)) (by kernel_rfl) (fun hc => ?_) (fun hc => ?_)
    · have hc : (inB u 67108864 && inB t 67108864 && inB i 64 && inB j 64) = false := (Bool.not_eq_true' _).mp hc
      refine evC_go0 (dec := []) (ks := [(0, 1), (0, 2), (1, 0), (1, 1), (1, 2), (1, 3), (1, 4), (1, 5)]) (s' := ⟨[(0, 1, Cont.cell (AV.ptr 1 0)), (0, 2, Cont.cell (AV.bool false)), (1, 0, Cont.cell (AV.int IntKind.i64 k)), (1, 1, Cont.cell (AV.int IntKind.i64 u)), (1, 2, Cont.cell (AV.int IntKind.i64 i)), (1, 3, Cont.cell (AV.int IntKind.i64 j)), (1, 4, Cont.cell (AV.int IntKind.i64 t)), (1, 5, Cont.top)], 201, 53⟩) (by kernel_rfl) (by kernel_rfl) ?_
      refine evC_ret ?_
      refine then_ret ?_
      refine post_ret ?_
      refine ends_flat (vs := [AV.bool false]) (Nat.zero_lt_succ _) (by kernel_rfl) (flat_of _ (by kernel_rfl)) rfl ?_
      refine congrArg AV.bool ?_
      unfold frm; rw [hc]; rfl
    · have hc : (inB u 67108864 && inB t 67108864 && inB i 64 && inB j 64) = true := (Bool.not_eq_false' _).mp hc
      have e : frm k u i j t = frK k i j t := by unfold frm; rw [hc]; rfl
      rw [e]
      clear h0 hc e
      refine evC_skip ?_
      refine then_normal ?_
      refine evC_seq ?_
      refine evC_go0 (dec := []) (ks := [(0, 1), (0, 2), (0, 26), (1, 0), (1, 1), (1, 2), (1, 3), (1, 4), (1, 5)]) (s' := ⟨[(0, 1, Cont.cell (AV.ptr 1 0)), (0, 2, Cont.cell (AV.bool false)), (0, 26, Cont.cell (AV.int IntKind.i64 k)), (1, 0, Cont.cell (AV.int IntKind.i64 k)), (1, 1, Cont.cell (AV.int IntKind.i64 u)), (1, 2, Cont.cell (AV.int IntKind.i64 i)), (1, 3, Cont.cell (AV.int IntKind.i64 j)), (1, 4, Cont.cell (AV.int IntKind.i64 t)), (1, 5, Cont.top)], 209, 53⟩) (by kernel_rfl) (by kernel_rfl) ?_
      refine evC_block ?_
      refine evC_seq ?_
      refine evC_block ?_
      refine evC_seq ?_
      refine evC_block ?_
      refine evC_seq ?_
      refine evC_block ?_
      refine evC_seq ?_
      refine evC_block ?_
      refine evC_seq ?_
      refine evC_seq ?_
      refine evC_go0 (dec := []) (ks := [(0, 1), (0, 2), (0, 26), (0, 27), (1, 0), (1, 1), (1, 2), (1, 3), (1, 4), (1, 5)]) (s' := ⟨[(0, 1, Cont.cell (AV.ptr 1 0)), (0, 2, Cont.cell (AV.bool false)), (0, 26, Cont.cell (AV.int IntKind.i64 k)), (0, 27, Cont.cell (AV.bool (k == 3))), (1, 0, Cont.cell (AV.int IntKind.i64 k)), (1, 1, Cont.cell (AV.int IntKind.i64 u)), (1, 2, Cont.cell (AV.int IntKind.i64 i)), (1, 3, Cont.cell (AV.int IntKind.i64 j)), (1, 4, Cont.cell (AV.int IntKind.i64 t)), (1, 5, Cont.top)], 225, 53⟩) (by kernel_rfl) (by kernel_rfl) ?_
      refine evC_if (q := k == 3) (by kernel_rfl) (fun hc => ?_) (fun hc => ?_)
      · refine evC_exit ?_
        refine then_exit ?_
        refine then_exit ?_
        refine block_exit ?_
        refine then_normal ?_
        refine evC_seq ?_
        refine evC_go0 (dec := []) (ks := [(0, 1), (0, 2), (1, 0), (1, 1), (1, 2), (1, 3), (1, 4), (1, 5)]) (s' := ⟨[(0, 1, Cont.cell (AV.ptr 1 0)), (0, 2, Cont.cell (AV.bool (decide (t < 16)))), (1, 0, Cont.cell (AV.int IntKind.i64 k)), (1, 1, Cont.cell (AV.int IntKind.i64 u)), (1, 2, Cont.cell (AV.int IntKind.i64 i)), (1, 3, Cont.cell (AV.int IntKind.i64 j)), (1, 4, Cont.cell (AV.int IntKind.i64 t)), (1, 5, Cont.top)], 257, 53⟩) (by kernel_rfl) (by kernel_rfl) ?_
        refine evC_ret ?_
        refine then_ret ?_
        refine block_ret ?_
        refine then_ret ?_
        refine block_ret ?_
        refine then_ret ?_
        refine block_ret ?_
        refine then_ret ?_
        refine block_ret ?_
        refine then_ret ?_
        refine post_ret ?_
        refine ends_flat (vs := [AV.bool (decide (t < 16))]) (Nat.zero_lt_succ _) (by kernel_rfl) (flat_of _ (by kernel_rfl)) rfl ?_
        refine congrArg AV.bool ?_
        unfold frK; rw [hc]; rfl
      · have h3 : (k == 3) = false := hc
        clear hc
        refine evC_skip ?_
        refine then_normal ?_
        refine evC_seq ?_
        refine evC_go0 (dec := []) (ks := [(0, 1), (0, 2), (0, 26), (0, 29), (1, 0), (1, 1), (1, 2), (1, 3), (1, 4), (1, 5)]) (s' := ⟨[(0, 1, Cont.cell (AV.ptr 1 0)), (0, 2, Cont.cell (AV.bool false)), (0, 26, Cont.cell (AV.int IntKind.i64 k)), (0, 29, Cont.cell (AV.bool (k == 0))), (1, 0, Cont.cell (AV.int IntKind.i64 k)), (1, 1, Cont.cell (AV.int IntKind.i64 u)), (1, 2, Cont.cell (AV.int IntKind.i64 i)), (1, 3, Cont.cell (AV.int IntKind.i64 j)), (1, 4, Cont.cell (AV.int IntKind.i64 t)), (1, 5, Cont.top)], 241, 53⟩) (by kernel_rfl) (by kernel_rfl) ?_
        refine evC_if (q := k == 0) (by kernel_rfl) (fun hc => ?_) (fun hc => ?_)
        · have h0 : (k == 0) = true := hc
          clear hc
          refine evC_exit ?_
          refine then_exit ?_
          refine then_exit ?_
          refine block_other rfl ?_
          refine then_exit ?_
          refine block_exit ?_
          refine then_normal ?_
          refine evC_go0 (dec := []) (ks := [(0, 1), (0, 2), (0, 41), (1, 0), (1, 1), (1, 2), (1, 3), (1, 4), (1, 5)]) (s' := ⟨[(0, 1, Cont.cell (AV.ptr 1 0)), (0, 2, Cont.cell (AV.bool false)), (0, 41, Cont.cell (AV.bool (t != 0))), (1, 0, Cont.cell (AV.int IntKind.i64 k)), (1, 1, Cont.cell (AV.int IntKind.i64 u)), (1, 2, Cont.cell (AV.int IntKind.i64 i)), (1, 3, Cont.cell (AV.int IntKind.i64 j)), (1, 4, Cont.cell (AV.int IntKind.i64 t)), (1, 5, Cont.top)], 265, 53⟩) (by kernel_rfl) (by kernel_rfl) ?_
          refine evC_if (q := t != 0) (by kernel_rfl) (fun hc => ?_) (fun hc => ?_)
          · have ht : (t == 0) = false := by simpa [bne] using hc
            refine evC_go0 (dec := []) (ks := [(0, 1), (0, 2), (1, 0), (1, 1), (1, 2), (1, 3), (1, 4), (1, 5)]) (s' := ⟨[(0, 1, Cont.cell (AV.ptr 1 0)), (0, 2, Cont.cell (AV.bool false)), (1, 0, Cont.cell (AV.int IntKind.i64 k)), (1, 1, Cont.cell (AV.int IntKind.i64 u)), (1, 2, Cont.cell (AV.int IntKind.i64 i)), (1, 3, Cont.cell (AV.int IntKind.i64 j)), (1, 4, Cont.cell (AV.int IntKind.i64 t)), (1, 5, Cont.top)], 273, 53⟩) (by kernel_rfl) (by kernel_rfl) ?_
            refine evC_ret ?_
            refine block_ret ?_
            refine then_ret ?_
            refine block_ret ?_
            refine then_ret ?_
            refine block_ret ?_
            refine then_ret ?_
            refine post_ret ?_
            refine ends_flat (vs := [AV.bool false]) (Nat.zero_lt_succ _) (by kernel_rfl) (flat_of _ (by kernel_rfl)) rfl ?_
            refine congrArg AV.bool ?_
            unfold frK; rw [h3, h0, ht]; rfl
          · have ht : (t == 0) = true := by simpa [bne] using hc
            clear hc
            refine evC_skip ?_
            refine block_normal ?_
            refine then_normal ?_
            refine evC_seq ?_
            refine evC_go0 (dec := []) (ks := [(0, 1), (0, 2), (1, 0), (1, 1), (1, 2), (1, 3), (1, 4), (1, 5)]) (s' := ⟨[(0, 1, Cont.cell (AV.ptr 1 0)), (0, 2, Cont.cell (AV.bool (bif i == 0 then j == 0 else false))), (1, 0, Cont.cell (AV.int IntKind.i64 k)), (1, 1, Cont.cell (AV.int IntKind.i64 u)), (1, 2, Cont.cell (AV.int IntKind.i64 i)), (1, 3, Cont.cell (AV.int IntKind.i64 j)), (1, 4, Cont.cell (AV.int IntKind.i64 t)), (1, 5, Cont.top)], 337, 53⟩) (by kernel_rfl) (by kernel_rfl) ?_
            refine evC_ret ?_
            refine then_ret ?_
            refine block_ret ?_
            refine then_ret ?_
            refine block_ret ?_
            refine then_ret ?_
            refine post_ret ?_
            refine ends_flat (vs := [AV.bool (bif i == 0 then j == 0 else false)]) (Nat.zero_lt_succ _) (by kernel_rfl) (flat_of _ (by kernel_rfl)) rfl ?_
            refine congrArg AV.bool ?_
            rw [cond_and]
            unfold frK; rw [h3, h0, ht]; rfl
        · have h0 : (k == 0) = false := hc
          clear hc
          refine evC_skip ?_
          refine then_normal ?_
          refine evC_seq ?_
          refine evC_go0 (dec := []) (ks := [(0, 1), (0, 2), (0, 26), (0, 31), (1, 0), (1, 1), (1, 2), (1, 3), (1, 4), (1, 5)]) (s' := ⟨[(0, 1, Cont.cell (AV.ptr 1 0)), (0, 2, Cont.cell (AV.bool false)), (0, 26, Cont.cell (AV.int IntKind.i64 k)), (0, 31, Cont.cell (AV.bool (k == 2))), (1, 0, Cont.cell (AV.int IntKind.i64 k)), (1, 1, Cont.cell (AV.int IntKind.i64 u)), (1, 2, Cont.cell (AV.int IntKind.i64 i)), (1, 3, Cont.cell (AV.int IntKind.i64 j)), (1, 4, Cont.cell (AV.int IntKind.i64 t)), (1, 5, Cont.top)], 257, 53⟩) (by kernel_rfl) (by kernel_rfl) ?_
          refine evC_if (q := k == 2) (by kernel_rfl) (fun hc => ?_) (fun hc => ?_)
          · have h2 : (k == 2) = true := hc
            refine evC_exit ?_
            refine then_exit ?_
            refine then_exit ?_
            refine block_other rfl ?_
            refine then_exit ?_
            refine block_other rfl ?_
            refine then_exit ?_
            refine block_exit ?_
            refine then_normal ?_
            refine evC_seq ?_
            refine evC_go0 (dec := []) (ks := [(0, 1), (0, 2), (1, 0), (1, 1), (1, 2), (1, 3), (1, 4), (1, 5)]) (s' := ⟨[(0, 1, Cont.cell (AV.ptr 1 0)), (0, 2, Cont.cell (AV.bool (bif i == 0 then j == 0 else false))), (1, 0, Cont.cell (AV.int IntKind.i64 k)), (1, 1, Cont.cell (AV.int IntKind.i64 u)), (1, 2, Cont.cell (AV.int IntKind.i64 i)), (1, 3, Cont.cell (AV.int IntKind.i64 j)), (1, 4, Cont.cell (AV.int IntKind.i64 t)), (1, 5, Cont.top)], 329, 53⟩) (by kernel_rfl) (by kernel_rfl) ?_
            refine evC_ret ?_
            refine then_ret ?_
            refine block_ret ?_
            refine then_ret ?_
            refine block_ret ?_
            refine then_ret ?_
            refine post_ret ?_
            refine ends_flat (vs := [AV.bool (bif i == 0 then j == 0 else false)]) (Nat.zero_lt_succ _) (by kernel_rfl) (flat_of _ (by kernel_rfl)) rfl ?_
            refine congrArg AV.bool ?_
            rw [cond_and]
            unfold frK; rw [h3, h0, h2]; rfl
          · have h2 : (k == 2) = false := hc
            clear hc
            have fin : ∀ b : Bool, (k == 1 || k == 4) = b → frK k i j t = bif b then t == 0 else false := by
              intro b hb
              unfold frK; rw [h3, h0, h2, hb]; rfl
            refine evC_skip ?_
            refine then_normal ?_
            refine evC_seq ?_
            refine evC_go0 (dec := []) (ks := [(0, 1), (0, 2), (0, 26), (0, 33), (1, 0), (1, 1), (1, 2), (1, 3), (1, 4), (1, 5)]) (s' := ⟨[(0, 1, Cont.cell (AV.ptr 1 0)), (0, 2, Cont.cell (AV.bool false)), (0, 26, Cont.cell (AV.int IntKind.i64 k)), (0, 33, Cont.cell (AV.bool (k == 1))), (1, 0, Cont.cell (AV.int IntKind.i64 k)), (1, 1, Cont.cell (AV.int IntKind.i64 u)), (1, 2, Cont.cell (AV.int IntKind.i64 i)), (1, 3, Cont.cell (AV.int IntKind.i64 j)), (1, 4, Cont.cell (AV.int IntKind.i64 t)), (1, 5, Cont.top)], 273, 53⟩) (by kernel_rfl) (by kernel_rfl) ?_
            refine evC_if (q := k == 1) (by kernel_rfl) (fun hc => ?_) (fun hc => ?_)
            · have h1 : (k == 1) = true := hc
              clear hc
              refine evC_skip ?_
              refine then_normal ?_
              refine evC_if (q := k == 1) (by kernel_rfl) (fun hc => ?_) (fun hc => ?_)
              · refine evC_exit ?_
                refine then_exit ?_
                refine block_other rfl ?_
                refine then_exit ?_
                refine block_other rfl ?_
                refine then_exit ?_
                refine block_other rfl ?_
                refine then_exit ?_
                refine block_exit ?_
                refine then_normal ?_
                refine evC_seq ?_
                refine evC_go0 (dec := []) (ks := [(0, 2)]) (s' := ⟨[(0, 2, Cont.cell (AV.bool (t == 0)))], 305, 53⟩) (by kernel_rfl) (by kernel_rfl) ?_
                refine evC_ret ?_
                refine then_ret ?_
                refine block_ret ?_
                refine then_ret ?_
                refine post_ret ?_
                refine ends_flat (vs := [AV.bool (t == 0)]) (Nat.zero_lt_succ _) (by kernel_rfl) (flat_of _ (by kernel_rfl)) rfl ?_
                rw [fin true (by rw [h1]; rfl)]; rfl
              · rename_i hc2
                exfalso; rw [h1] at hc; cases hc
            · have h1 : (k == 1) = false := hc
              clear hc
              refine evC_goL0 (dec := []) (ks := [(0, 1), (0, 2), (0, 33), (1, 0), (1, 1), (1, 2), (1, 3), (1, 4), (1, 5)]) (s' := ⟨[(0, 1, Cont.cell (AV.ptr 1 0)), (0, 2, Cont.cell (AV.bool false)), (0, 33, Cont.cell (AV.bool (k == 4))), (1, 0, Cont.cell (AV.int IntKind.i64 k)), (1, 1, Cont.cell (AV.int IntKind.i64 u)), (1, 2, Cont.cell (AV.int IntKind.i64 i)), (1, 3, Cont.cell (AV.int IntKind.i64 j)), (1, 4, Cont.cell (AV.int IntKind.i64 t)), (1, 5, Cont.top)], 289, 53⟩) (by kernel_rfl) (by kernel_rfl) ?_
              refine then_normal ?_
              refine evC_if (q := k == 4) (by kernel_rfl) (fun hc => ?_) (fun hc => ?_)
              · have h4 : (k == 4) = true := hc
                refine evC_exit ?_
                refine then_exit ?_
                refine block_other rfl ?_
                refine then_exit ?_
                refine block_other rfl ?_
                refine then_exit ?_
                refine block_other rfl ?_
                refine then_exit ?_
                refine block_exit ?_
                refine then_normal ?_
                refine evC_seq ?_
                refine evC_go0 (dec := []) (ks := [(0, 2)]) (s' := ⟨[(0, 2, Cont.cell (AV.bool (t == 0)))], 321, 53⟩) (by kernel_rfl) (by kernel_rfl) ?_
                refine evC_ret ?_
                refine then_ret ?_
                refine block_ret ?_
                refine then_ret ?_
                refine post_ret ?_
                refine ends_flat (vs := [AV.bool (t == 0)]) (Nat.zero_lt_succ _) (by kernel_rfl) (flat_of _ (by kernel_rfl)) rfl ?_
                rw [fin true (by rw [h1, h4]; rfl)]; rfl
              · have h4 : (k == 4) = false := hc
                refine evC_skip ?_
                refine then_normal ?_
                refine evC_exit ?_
                refine block_other rfl ?_
                refine then_exit ?_
                refine block_other rfl ?_
                refine then_exit ?_
                refine block_other rfl ?_
                refine then_exit ?_
                refine block_other rfl ?_
                refine then_exit ?_
                refine block_exit ?_
                refine then_normal ?_
                refine evC_go0 (dec := []) (ks := [(0, 2)]) (s' := ⟨[(0, 2, Cont.cell (AV.bool false))], 297, 53⟩) (by kernel_rfl) (by kernel_rfl) ?_
                refine evC_ret ?_
                refine post_ret ?_
                refine ends_flat (vs := [AV.bool false]) (Nat.zero_lt_succ _) (by kernel_rfl) (flat_of _ (by kernel_rfl)) rfl ?_
                rw [fin false (by rw [h1, h4]; rfl)]; rfl
  · cases e

theorem refForm_ok : SpecOK Try.prog 13 sForm := by
  refine spec_own (by kernel_rfl) T_ok (sget_cons in_ok sget_nil) Try.func13 rfl rfl fun args hr nb out e => ?_
  unfold sForm at e
  split at e
  · rename_i k u i j t
    injection e with e; subst e
    refine ⟨(fun _ h => nomatch h), true, [od k u i j t], rfl, fun _ => ⟨.cons _ _ _ _ (.same _ _ (od_flat _ _ _ _ _).has) .nil, ?_⟩⟩
    unfold od
    have h0 : (bif bif bif bif !inB k 5 then true else !inB u 67108864 then true else !inB t 67108864 then true else !inB i 64 then true else !inB j 64) = !(inB k 5 && (inB u 67108864 && inB t 67108864 && inB i 64 && inB j 64)) := by
      cases inB k 5 <;> cases inB u 67108864 <;> cases inB t 67108864 <;> cases inB i 64 <;> cases inB j 64 <;> rfl
    have hk : frK k i j t = (inB k 5 && frK k i j t) := by
      cases h : inB k 5 with
      | true => rfl
      | false =>
        have : ¬ (0 ≤ k ∧ k < 5) := by
          unfold inB at h
          simpa using h
        have e0 : (k == 0) = false := by simp; omega
        have e1 : (k == 1) = false := by simp; omega
        have e2 : (k == 2) = false := by simp; omega
        have e3 : (k == 3) = false := by simp; omega
        have e4 : (k == 4) = false := by simp; omega
        unfold frK; rw [e0, e1, e2, e3, e4]; rfl
    refine evC_go0 (dec := []) (ks := [(0, 1), (0, 2), (1, 0), (1, 1), (1, 2), (1, 3), (1, 4), (1, 5)]) (s' := ⟨[(0, 1, Cont.cell (AV.ptr 1 0)), (0, 2, Cont.cell (AV.bool false)), (1, 0, Cont.cell (AV.int IntKind.i64 k)), (1, 1, Cont.cell (AV.int IntKind.i64 u)), (1, 2, Cont.cell (AV.int IntKind.i64 i)), (1, 3, Cont.cell (AV.int IntKind.i64 j)), (1, 4, Cont.cell (AV.int IntKind.i64 t)), (1, 5, Cont.top)], 17, 71⟩) (by kernel_rfl) (by kernel_rfl) ?_
    refine evC_seq ?_
    refine evC_go0 (dec := []) (ks := [(0, 1), (0, 2), (0, 31), (1, 0), (1, 1), (1, 2), (1, 3), (1, 4), (1, 5)]) (s' := ⟨[(0, 1, Cont.cell (AV.ptr 1 0)), (0, 2, Cont.cell (AV.bool false)), (0, 31, Cont.cell (AV.bool (bif bif bif bif !inB k 5 then true else !inB u 67108864 then true else !inB t 67108864 then true else !inB i 64 then true else !inB j 64))), (1, 0, Cont.cell (AV.int IntKind.i64 k)), (1, 1, Cont.cell (AV.int IntKind.i64 u)), (1, 2, Cont.cell (AV.int IntKind.i64 i)), (1, 3, Cont.cell (AV.int IntKind.i64 j)), (1, 4, Cont.cell (AV.int IntKind.i64 t)), (1, 5, Cont.top)], 241, 71⟩) (by kernel_rfl) (by kernel_rfl) ?_
    rw [h0]
    refine evC_if (q := !(inB k 5 && (inB u 67108864 && inB t 67108864 && inB i 64 && inB j 64))) (by kernel_rfl) (fun hc => ?_) (fun hc => ?_)
    · have hc : (inB k 5 && (inB u 67108864 && inB t 67108864 && inB i 64 && inB j 64)) = false := (Bool.not_eq_true' _).mp hc
      refine evC_go0 (dec := []) (ks := [(0, 1), (0, 2), (1, 0), (1, 1), (1, 2), (1, 3), (1, 4), (1, 5)]) (s' := ⟨[(0, 1, Cont.cell (AV.ptr 1 0)), (0, 2, Cont.cell (AV.bool false)), (1, 0, Cont.cell (AV.int IntKind.i64 k)), (1, 1, Cont.cell (AV.int IntKind.i64 u)), (1, 2, Cont.cell (AV.int IntKind.i64 i)), (1, 3, Cont.cell (AV.int IntKind.i64 j)), (1, 4, Cont.cell (AV.int IntKind.i64 t)), (1, 5, Cont.top)], 249, 71⟩) (by kernel_rfl) (by kernel_rfl) ?_
      refine evC_ret ?_
      refine then_ret ?_
      refine post_ret ?_
      refine ends_flat (vs := [AV.bool false]) (Nat.zero_lt_succ _) (by kernel_rfl) (flat_of _ (by kernel_rfl)) rfl ?_
      refine congrArg AV.bool ?_
      unfold frm; rw [hk]
      revert hc
      cases inB k 5 <;> cases (inB u 67108864 && inB t 67108864 && inB i 64 && inB j 64) <;> simp
    · have hc : (inB k 5 && (inB u 67108864 && inB t 67108864 && inB i 64 && inB j 64)) = true := (Bool.not_eq_false' _).mp hc
      obtain ⟨hk5, hc⟩ := (Bool.and_eq_true _ _).mp hc
      have e : frm k u i j t = frK k i j t := by unfold frm; rw [hc]; rfl
      have hk6 : 0 ≤ k ∧ k < 5 := by unfold inB at hk5; simpa using hk5
      rw [e]
      clear h0 hc e hk
      have key : ∀ c, c = (bif bif k == 1 then true else k == 3 then true else k == 4) → frK k i j t = bif (bif !c then (bif i != 0 then true else j != 0) else false) then false else bif k == 3 then decide (t < 16) else bif k == 2 then true else t == 0 := by
        intro c hc
        subst hc
        rcases (by omega : k = 0 ∨ k = 1 ∨ k = 2 ∨ k = 3 ∨ k = 4) with rfl | rfl | rfl | rfl | rfl
        · unfold frK bne
          cases (i == 0) <;> cases (j == 0) <;> cases (t == 0) <;> rfl
        · rfl
        · unfold frK bne
          cases (i == 0) <;> cases (j == 0) <;> rfl
        · rfl
        · rfl
      refine evC_skip ?_
      refine then_normal ?_
      refine evC_go0 (dec := []) (ks := [(0, 1), (0, 2), (0, 3), (1, 0), (1, 1), (1, 2), (1, 3), (1, 4), (1, 5)]) (s' := ⟨[(0, 1, Cont.cell (AV.ptr 1 0)), (0, 2, Cont.cell (AV.bool false)), (0, 3, Cont.cell (AV.bool (bif bif k == 1 then true else k == 3 then true else k == 4))), (1, 0, Cont.cell (AV.int IntKind.i64 k)), (1, 1, Cont.cell (AV.int IntKind.i64 u)), (1, 2, Cont.cell (AV.int IntKind.i64 i)), (1, 3, Cont.cell (AV.int IntKind.i64 j)), (1, 4, Cont.cell (AV.int IntKind.i64 t)), (1, 5, Cont.top)], 353, 71⟩) (by kernel_rfl) (by kernel_rfl) ?_
      refine evC_seq ?_
      refine evC_go0 (dec := []) (ks := [(0, 1), (0, 2), (0, 56), (1, 0), (1, 1), (1, 2), (1, 3), (1, 4), (1, 5)]) (s' := ⟨[(0, 1, Cont.cell (AV.ptr 1 0)), (0, 2, Cont.cell (AV.bool false)), (0, 56, Cont.cell (AV.bool (bif !bif bif k == 1 then true else k == 3 then true else k == 4 then bif i != 0 then true else j != 0 else false))), (1, 0, Cont.cell (AV.int IntKind.i64 k)), (1, 1, Cont.cell (AV.int IntKind.i64 u)), (1, 2, Cont.cell (AV.int IntKind.i64 i)), (1, 3, Cont.cell (AV.int IntKind.i64 j)), (1, 4, Cont.cell (AV.int IntKind.i64 t)), (1, 5, Cont.top)], 449, 71⟩) (by kernel_rfl) (by kernel_rfl) ?_
      refine evC_if (q := bif !bif bif k == 1 then true else k == 3 then true else k == 4 then bif i != 0 then true else j != 0 else false) (by kernel_rfl) (fun hc => ?_) (fun hc => ?_)
      · have h1 := hc
        refine evC_go0 (dec := []) (ks := [(0, 1), (0, 2), (1, 0), (1, 1), (1, 2), (1, 3), (1, 4), (1, 5)]) (s' := ⟨[(0, 1, Cont.cell (AV.ptr 1 0)), (0, 2, Cont.cell (AV.bool false)), (1, 0, Cont.cell (AV.int IntKind.i64 k)), (1, 1, Cont.cell (AV.int IntKind.i64 u)), (1, 2, Cont.cell (AV.int IntKind.i64 i)), (1, 3, Cont.cell (AV.int IntKind.i64 j)), (1, 4, Cont.cell (AV.int IntKind.i64 t)), (1, 5, Cont.top)], 457, 71⟩) (by kernel_rfl) (by kernel_rfl) ?_
        refine evC_ret ?_
        refine then_ret ?_
        refine post_ret ?_
        refine ends_flat (vs := [AV.bool false]) (Nat.zero_lt_succ _) (by kernel_rfl) (flat_of _ (by kernel_rfl)) rfl ?_
        rw [key _ rfl, h1]; rfl
      · have h1 := hc
        clear hc
        refine evC_skip ?_
        refine then_normal ?_
        refine evC_seq ?_
        refine evC_go0 (dec := []) (ks := [(0, 1), (0, 2), (0, 59), (1, 0), (1, 1), (1, 2), (1, 3), (1, 4), (1, 5)]) (s' := ⟨[(0, 1, Cont.cell (AV.ptr 1 0)), (0, 2, Cont.cell (AV.bool false)), (0, 59, Cont.cell (AV.bool (k == 3))), (1, 0, Cont.cell (AV.int IntKind.i64 k)), (1, 1, Cont.cell (AV.int IntKind.i64 u)), (1, 2, Cont.cell (AV.int IntKind.i64 i)), (1, 3, Cont.cell (AV.int IntKind.i64 j)), (1, 4, Cont.cell (AV.int IntKind.i64 t)), (1, 5, Cont.top)], 473, 71⟩) (by kernel_rfl) (by kernel_rfl) ?_
        refine evC_if (q := k == 3) (by kernel_rfl) (fun hc => ?_) (fun hc => ?_)
        · have h3 : (k == 3) = true := hc
          refine evC_go0 (dec := []) (ks := [(0, 1), (0, 2), (1, 0), (1, 1), (1, 2), (1, 3), (1, 4), (1, 5)]) (s' := ⟨[(0, 1, Cont.cell (AV.ptr 1 0)), (0, 2, Cont.cell (AV.bool (decide (t < 16)))), (1, 0, Cont.cell (AV.int IntKind.i64 k)), (1, 1, Cont.cell (AV.int IntKind.i64 u)), (1, 2, Cont.cell (AV.int IntKind.i64 i)), (1, 3, Cont.cell (AV.int IntKind.i64 j)), (1, 4, Cont.cell (AV.int IntKind.i64 t)), (1, 5, Cont.top)], 505, 71⟩) (by kernel_rfl) (by kernel_rfl) ?_
          refine evC_ret ?_
          refine then_ret ?_
          refine post_ret ?_
          refine ends_flat (vs := [AV.bool (decide (t < 16))]) (Nat.zero_lt_succ _) (by kernel_rfl) (flat_of _ (by kernel_rfl)) rfl ?_
          rw [key _ rfl, h1, h3]; rfl
        · have h3 : (k == 3) = false := hc
          refine evC_skip ?_
          refine then_normal ?_
          refine evC_go0 (dec := []) (ks := [(0, 2)]) (s' := ⟨[(0, 2, Cont.cell (AV.bool (bif k == 2 then true else t == 0)))], 545, 71⟩) (by kernel_rfl) (by kernel_rfl) ?_
          refine evC_ret ?_
          refine post_ret ?_
          refine ends_flat (vs := [AV.bool (bif k == 2 then true else t == 0)]) (Nat.zero_lt_succ _) (by kernel_rfl) (flat_of _ (by kernel_rfl)) rfl ?_
          rw [key _ rfl, h1, h3]; rfl
  · cases e

/-! Few, the same ones. -/
theorem blt_no {a b : Nat} (h : ¬ a < b) : Nat.blt a b = false := by
  cases e : Nat.blt a b with
  | false => rfl
  | true => exact absurd (by simpa [Nat.blt_eq] using e) h
theorem blt_yes {a b : Nat} (h : a < b) : Nat.blt a b = true := by simpa [Nat.blt_eq] using h
def cut (n k : Nat) : Nat := bif Nat.blt k n then k else n
theorem cut_le (n k : Nat) : cut n k ≤ k ∧ cut n k ≤ n := by
  unfold cut
  by_cases h : k < n
  · rw [blt_yes h]; simp; omega
  · rw [blt_no h]; simp; omega
theorem cut_yes {n k : Nat} (h : decide ((n : Int) > (k : Int)) = true) : cut n k = k := by
  have : k < n := by have := of_decide_eq_true h; omega
  unfold cut; rw [blt_yes this]; rfl
theorem cut_no {n k : Nat} (h : decide ((n : Int) > (k : Int)) = false) : cut n k = n := by
  have : ¬ k < n := by have := of_decide_eq_false h; omega
  unfold cut; rw [blt_no this]; rfl
/-- Rows of orders. -/
abbrev Os := Nat → Int × Int × Int × Int × Int
def nO (o : Os) : Nat → AV := fun i => od (o i).1 (o i).2.1 (o i).2.2.1 (o i).2.2.2.1 (o i).2.2.2.2
theorem nO_flat (o : Os) (i : Nat) : Flat (nO o i) := od_flat _ _ _ _ _
def O (f : Nat → AV) : Os := fun i => (cv 0 (f i), cv 1 (f i), cv 2 (f i), cv 3 (f i), cv 4 (f i))
theorem O_nO (o : Os) : O (nO o) = o := rfl
theorem nO_cut (o : Os) : (fun i => nO o (Int.toNat 0 + i)) = nO o := funext fun i => by simp
def sFew : Spec := fun args _ _ => match args with
  | [.rs 1 n b f] => none
  | [.rs 5 n b f] => some ⟨[(∀ i, i < n → f i = nO (O f) i) ∧ n ≤ maxLen], .rs 5 (cut n 66) false (nO (O f)), [], []⟩
  | _ => none
theorem few_ok : SpecOK Try.prog 11 sFew := by
  refine spec_own (by kernel_rfl) T_ok sget_nil Try.func11 rfl rfl fun args hr nb out e => ?_
  unfold sFew at e
  split at e
  · cases e
  · rename_i n b f
    injection e with e; subst e
    refine ⟨(fun _ h => nomatch h), true, [.rs 5 n false (nO (O f))], rfl, fun hs => ?_⟩
    obtain ⟨h1, h2⟩ := hs _ List.mem_cons_self
    refine ⟨.cons _ _ _ _ (.rs _ _ _ _ _ _ fun i hi => ⟨h1 i hi, (nO_flat _ i).has⟩) .nil, ?_⟩
    clear hs h1
    unfold maxLen at h2
    generalize O f = o
    refine evC_go0 (dec := []) (ks := [(0, 0), (0, 2)]) (s' := ⟨[(0, 0, Cont.cell (AV.rs 5 n false (nO o))), (0, 2, Cont.cell AV.nils)], 9, 9⟩) (by kernel_rfl) (by kernel_rfl) ?_
    refine evC_seq ?_
    refine evC_go0 (dec := []) (ks := [(0, 0), (0, 2), (0, 5)]) (s' := ⟨[(0, 0, Cont.cell (AV.rs 5 n false (nO o))), (0, 2, Cont.cell AV.nils), (0, 5, Cont.cell (AV.bool (decide ((↑n : Int) > 66))))], 33, 9⟩) (by kernel_rfl) (by kernel_rfl) ?_
    refine evC_if (q := decide ((↑n : Int) > 66)) (by kernel_rfl) (fun hc => ?_) (fun hc => ?_)
    · have hg : 66 ≤ n := by have := of_decide_eq_true hc; omega
      refine evC_go (dec := []) (ks := [(0, 0), (0, 2)]) (ps := [(0 : Int) ≤ (0 : Int), (0 : Int) ≤ (66 : Int), (66 : Int) ≤ (↑n : Int), (66 : Int) = (66 : Int), (5 : Nat) = (5 : Nat), false = true → true = true]) (s' := ⟨[(0, 0, Cont.cell (AV.rs 5 n false (nO o))), (0, 2, Cont.cell (AV.rs 5 66 false fun i => nO o (Int.toNat 0 + i)))], 57, 9⟩) (by kernel_rfl) (by kernel_rfl) ?_ ?_
      · (simp only [All]; (repeat' apply And.intro) <;> (try intro _) <;> (try intro _) <;> (repeat' apply And.intro) <;> (try intro _) <;> (try intro _) <;> first | trivial | assumption | exact .inr trivial | exact .inr rfl | omega | rfl | exact ⟨_, rfl, rfl⟩ | exact ⟨rfl, rfl⟩ | exact ⟨fun _ => rfl, fun _ => rfl⟩ | (unfold maxLen; omega) | (unfold i64R; first | omega | decide) | decide)
      rw [nO_cut, cut_yes hc]
      refine evC_ret ?_
      refine then_ret ?_
      refine post_ret ?_
      refine ends_go [] (AV.rs 5 66 false (nO o)) [] rfl (by decide) rfl rfl (?_) rfl trivial trivial (kept_nil _)
      exact .rs _ _ _ _ rfl fun i _ => (nO_flat o i).has
    · rw [cut_no hc]
      refine evC_skip ?_
      refine then_normal ?_
      refine evC_go0 (dec := []) (ks := [(0, 2)]) (s' := ⟨[(0, 2, Cont.cell (AV.rs 5 n false (nO o)))], 49, 9⟩) (by kernel_rfl) (by kernel_rfl) ?_
      refine evC_ret ?_
      refine post_ret ?_
      refine ends_go [] (AV.rs 5 n false (nO o)) [] rfl (by decide) rfl rfl (?_) rfl trivial trivial (kept_nil _)
      exact .rs _ _ _ _ rfl fun i _ => (nO_flat o i).has
  · cases e

def oEq (a b : Int × Int × Int × Int × Int) : Bool := a.1 == b.1 && (a.2.1 == b.2.1 && (a.2.2.1 == b.2.2.1 && (a.2.2.2.1 == b.2.2.2.1 && (a.2.2.2.2 == b.2.2.2.2 && true))))
theorem oEq_iff {a b : Int × Int × Int × Int × Int} : oEq a b = true ↔ a = b := by
  obtain ⟨a1, a2, a3, a4, a5⟩ := a
  obtain ⟨b1, b2, b3, b4, b5⟩ := b
  simp [oEq]
def sameF (n m : Nat) (w x : Os) : Bool := (n == m) && (List.range n).all fun i => oEq (w i) (x i)
def sSame : Spec := fun args hr nb => match args with
  | [v, u] => match sl 5 hr v, sl 5 hr u with
    | some (n, f, rd), some (m, f2, rd2) => some ⟨[(∀ i, i < n → f i = nO (O f) i) ∧ (∀ i, i < m → f2 i = nO (O f2) i) ∧ n ≤ maxLen ∧ m ≤ maxLen], .bool (sameF n m (O f) (O f2)), rd ++ rd2, []⟩
    | _, _ => none
  | _ => none
theorem same_ok : SpecOK Try.prog 18 sSame := by
  refine spec_own (by kernel_rfl) T_ok sget_nil Try.func18 rfl rfl fun args hr nb out e => ?_
  unfold sSame at e
  split at e
  · rename_i v u
    split at e
    · rename_i n f rd m f2 rd2 hs1 hs2
      injection e with e; subst e
      refine ⟨fun x hx => (List.mem_append.1 hx).elim (sl_rd hs1 x) (sl_rd hs2 x), false, [.rs 5 n false (nO (O f)), .rs 5 m false (nO (O f2))], rfl, fun hs => ?_⟩
      obtain ⟨h1, h2, h4, h5⟩ := hs _ List.mem_cons_self
      refine ⟨.cons _ _ _ _ (.slice _ _ _ _ _ hs1 (fun y hy => ⟨List.mem_append_left _ hy, by simp⟩) _ fun i hi => ⟨h1 i hi, (nO_flat _ i).has⟩)
        (.cons _ _ _ _ (.slice _ _ _ _ _ hs2 (fun y hy => ⟨List.mem_append_right _ hy, by simp⟩) _ fun i hi => ⟨h2 i hi, (nO_flat _ i).has⟩) .nil), ?_⟩
      clear hs h1 h2
      unfold maxLen at h4 h5
      generalize O f = w
      generalize O f2 = x
      refine evC_go0 (dec := []) (ks := [(0, 0), (0, 1), (0, 4)]) (s' := ⟨[(0, 0, Cont.cell (AV.rs 5 n false (nO w))), (0, 1, Cont.cell (AV.rs 5 m false (nO x))), (0, 4, Cont.cell (AV.bool false))], 9, 26⟩) (by kernel_rfl) (by kernel_rfl) ?_
      refine evC_seq ?_
      refine evC_go0 (dec := []) (ks := [(0, 0), (0, 1), (0, 4), (0, 10)]) (s' := ⟨[(0, 0, Cont.cell (AV.rs 5 n false (nO w))), (0, 1, Cont.cell (AV.rs 5 m false (nO x))), (0, 4, Cont.cell (AV.bool false)), (0, 10, Cont.cell (AV.bool ((↑n : Int) != (↑m : Int))))], 49, 26⟩) (by kernel_rfl) (by kernel_rfl) ?_
      refine evC_if (q := (↑n : Int) != (↑m : Int)) (by kernel_rfl) (fun hc => ?_) (fun hc => ?_)
      · have hne : ¬ n = m := by
          intro e; subst e; simp at hc
        refine evC_go0 (dec := []) (ks := [(0, 0), (0, 1), (0, 4)]) (s' := ⟨[(0, 0, Cont.cell (AV.rs 5 n false (nO w))), (0, 1, Cont.cell (AV.rs 5 m false (nO x))), (0, 4, Cont.cell (AV.bool false))], 57, 26⟩) (by kernel_rfl) (by kernel_rfl) ?_
        refine evC_ret ?_
        refine then_ret ?_
        refine post_ret ?_
        refine ends_flat (vs := [AV.bool false]) (Nat.zero_lt_succ _) (by kernel_rfl) (flat_of _ (by kernel_rfl)) rfl ?_
        have : (n == m) = false := by simpa using hne
        unfold sameF; rw [this]; rfl
      · have hnm : n = m := Int.ofNat.inj (by simpa [bne] using hc)
        subst hnm
        clear hc
        refine evC_skip ?_
        refine then_normal ?_
        refine evC_seq ?_
        refine evC_go0 (dec := []) (ks := [(0, 0), (0, 1), (0, 4), (0, 5)]) (s' := ⟨[(0, 0, Cont.cell (AV.rs 5 n false (nO w))), (0, 1, Cont.cell (AV.rs 5 n false (nO x))), (0, 4, Cont.cell (AV.bool false)), (0, 5, Cont.cell (AV.int IntKind.i64 0))], 57, 26⟩) (by kernel_rfl) (by kernel_rfl) ?_
        refine evC_block ?_
        refine evC_loop (ι := { i : Nat // i ≤ n ∧ ∀ j, j < i → oEq (w j) (x j) = true }) (fun y => ⟨[(0, 0, Cont.cell (AV.rs 5 n false (nO w))), (0, 1, Cont.cell (AV.rs 5 n false (nO x))), (0, 4, Cont.cell (AV.bool false)), (0, 5, .cell (.int .i64 (y.1 : Nat)))], 1, 26⟩) (fun y => n - y.1) ⟨0, Nat.zero_le _, fun j hj => absurd hj (Nat.not_lt_zero j)⟩ (wk_go [] rfl (by decide) rfl rfl ⟨⟨_, rfl, rfl⟩, ⟨_, rfl, rfl⟩, ⟨_, rfl, rfl⟩, ⟨_, rfl, rfl⟩, trivial⟩) ?_
        rintro ⟨i, hi, hj⟩
        refine evC_seq ?_
        refine evC_go0 (dec := []) (ks := [(0, 0), (0, 1), (0, 4), (0, 5), (0, 14)]) (s' := ⟨[(0, 0, Cont.cell (AV.rs 5 n false (nO w))), (0, 1, Cont.cell (AV.rs 5 n false (nO x))), (0, 4, Cont.cell (AV.bool false)), (0, 5, Cont.cell (AV.int IntKind.i64 (↑i : Int))), (0, 14, Cont.cell (AV.bool (decide ((↑i : Int) < (↑n : Int)))))], 33, 26⟩) (by kernel_rfl) (by kernel_rfl) ?_
        refine evC_if (q := decide ((↑i : Int) < (↑n : Int))) (by kernel_rfl) (fun hc => ?_) (fun hc => ?_)
        · have hlt : i < n := by have := of_decide_eq_true hc; omega
          clear hc
          refine evC_skip ?_
          refine then_normal ?_
          refine evC_seq ?_
          refine evC_block ?_
          refine evC_go (dec := []) (ks := [(0, 0), (0, 1), (0, 4), (0, 5), (0, 25)]) (ps := [(0 : Int) ≤ (↑i : Int), (↑i : Int) < (↑n : Int), (5 : Nat) = (5 : Nat), (0 : Int) ≤ (↑i : Int), (↑i : Int) < (↑n : Int), (5 : Nat) = (5 : Nat)]) (s' := ⟨[(0, 0, Cont.cell (AV.rs 5 n false (nO w))), (0, 1, Cont.cell (AV.rs 5 n false (nO x))), (0, 4, Cont.cell (AV.bool false)), (0, 5, Cont.cell (AV.int IntKind.i64 (↑i : Int))), (0, 25, Cont.cell (AV.bool !(Prod.fst (w i) == Prod.fst (x i) && (Prod.fst (Prod.snd (w i)) == Prod.fst (Prod.snd (x i)) && (Prod.fst (Prod.snd (Prod.snd (w i))) == Prod.fst (Prod.snd (Prod.snd (x i))) && (Prod.fst (Prod.snd (Prod.snd (Prod.snd (w i)))) == Prod.fst (Prod.snd (Prod.snd (Prod.snd (x i)))) && (Prod.snd (Prod.snd (Prod.snd (Prod.snd (w i)))) == Prod.snd (Prod.snd (Prod.snd (Prod.snd (x i)))) && true)))))))], 105, 26⟩) (by kernel_rfl) (by kernel_rfl) ?_ ?_
          · (simp only [All]; (repeat' apply And.intro) <;> (try intro _) <;> (try intro _) <;> (repeat' apply And.intro) <;> (try intro _) <;> (try intro _) <;> first | trivial | assumption | exact .inr trivial | exact .inr rfl | omega | rfl | exact ⟨_, rfl, rfl⟩ | exact ⟨rfl, rfl⟩ | exact ⟨fun _ => rfl, fun _ => rfl⟩ | (unfold maxLen; omega) | (unfold i64R; first | omega | decide) | decide)
          refine evC_if (q := !(Prod.fst (w i) == Prod.fst (x i) && (Prod.fst (Prod.snd (w i)) == Prod.fst (Prod.snd (x i)) && (Prod.fst (Prod.snd (Prod.snd (w i))) == Prod.fst (Prod.snd (Prod.snd (x i))) && (Prod.fst (Prod.snd (Prod.snd (Prod.snd (w i)))) == Prod.fst (Prod.snd (Prod.snd (Prod.snd (x i)))) && (Prod.snd (Prod.snd (Prod.snd (Prod.snd (w i)))) == Prod.snd (Prod.snd (Prod.snd (Prod.snd (x i)))) && true)))))) (by kernel_rfl) (fun hc => ?_) (fun hc => ?_)
          · have hf : oEq (w i) (x i) = false := (Bool.not_eq_true' _).mp hc
            refine evC_go0 (dec := []) (ks := [(0, 0), (0, 1), (0, 4), (0, 5)]) (s' := ⟨[(0, 0, Cont.cell (AV.rs 5 n false (nO w))), (0, 1, Cont.cell (AV.rs 5 n false (nO x))), (0, 4, Cont.cell (AV.bool false)), (0, 5, Cont.cell (AV.int IntKind.i64 (↑i : Int)))], 113, 26⟩) (by kernel_rfl) (by kernel_rfl) ?_
            refine evC_ret ?_
            refine block_ret ?_
            refine then_ret ?_
            refine round_ret ?_
            refine block_ret ?_
            refine then_ret ?_
            refine post_ret ?_
            refine ends_flat (vs := [AV.bool false]) (Nat.zero_lt_succ _) (by kernel_rfl) (flat_of _ (by kernel_rfl)) rfl ?_
            have e1 := all_false (p := fun i => oEq (w i) (x i)) hlt hf
            unfold sameF; rw [e1]; simp; rfl
          · have hf : oEq (w i) (x i) = true := (Bool.not_eq_false' _).mp hc
            refine evC_skip ?_
            refine block_normal ?_
            refine then_normal ?_
            refine evC_goL0 (dec := []) (ks := [(0, 0), (0, 1), (0, 4), (0, 5)]) (s' := ⟨[(0, 0, Cont.cell (AV.rs 5 n false (nO w))), (0, 1, Cont.cell (AV.rs 5 n false (nO x))), (0, 4, Cont.cell (AV.bool false)), (0, 5, Cont.cell (AV.int IntKind.i64 (IntKind.i64.wrap ((↑i : Int) + 1))))], 129, 26⟩) (by kernel_rfl) (by kernel_rfl) ?_
            rw [wrap_add_one hlt (by omega)]
            refine round_normal (⟨i + 1, by omega, fun j hj' => ?_⟩) (wk_go [] rfl (by decide) rfl rfl ⟨⟨_, rfl, rfl⟩, ⟨_, rfl, rfl⟩, ⟨_, rfl, rfl⟩, ⟨_, rfl, rfl⟩, trivial⟩) ?_
            · rcases Nat.lt_or_ge j i with h | h
              · exact hj j h
              · have : j = i := by omega
                subst this; exact hf
            · show n - (i + 1) < n - i; omega
        · have hlt : i = n := by have := of_decide_eq_false hc; omega
          subst hlt
          refine evC_exit ?_
          refine then_exit ?_
          refine round_exit ?_
          refine block_exit ?_
          refine then_normal ?_
          refine evC_go0 (dec := []) (ks := [(0, 4)]) (s' := ⟨[(0, 4, Cont.cell (AV.bool true))], 41, 26⟩) (by kernel_rfl) (by kernel_rfl) ?_
          refine evC_ret ?_
          refine post_ret ?_
          refine ends_flat (vs := [AV.bool true]) (Nat.zero_lt_succ _) (by kernel_rfl) (flat_of _ (by kernel_rfl)) rfl ?_
          have e1 := all_true (p := fun i => oEq (w i) (x i)) hj
          unfold sameF; rw [e1]; simp; rfl
    · cases e
  · cases e
end Go.Eng.S22
