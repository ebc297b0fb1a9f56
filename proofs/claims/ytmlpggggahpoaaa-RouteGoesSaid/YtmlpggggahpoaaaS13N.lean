/- Seat 13: the chapter's examples; the next cell as the document has it, walked. -/
import Derived.Test.YtmlpggggahpoaaaEngX
import Derived.Test.YtmlpggggahpoaaaS13J
import Derived.Test.YtmlpggggahpoaaaS13K
import Derived.Test.YtmlpggggahpoaaaS13M
set_option linter.unusedSimpArgs false
set_option linter.unusedVariables false
namespace Go.Eng.S13
open Go.Proofs Go.IntWalk
set_option maxRecDepth 10000

def gA : Nat → Bool := fun _ => true
def gB : Nat → Bool := fun j => bif j == 1 then false else true
theorem ex1 : costV 3 2 gA 6 0 5 = 5 := by decide +kernel
theorem ex2 : costE 3 2 gA 6 0 5 = 0 := by decide +kernel
theorem ex3 : costV 3 2 gB 6 0 5 = 6 := by decide +kernel
theorem ex4 : costE 3 2 gB 6 0 5 = 0 := by decide +kernel
theorem ex5 : wayA 3 2 gA 6 0 5 9 = [0, 1, 5] := by decide +kernel
theorem ex6 : errW 3 2 gA 6 0 5 9 = 0 := by decide +kernel
theorem ex8 : errW 3 2 gA 6 0 5 4 = 10 := by decide +kernel
def sAwake : Spec := fun args _ _ => match args with
  | [] => some ⟨[], .bool true, [], []⟩
  | _ => none
theorem awake_ok : SpecOK Try.prog 11 sAwake := by
  refine spec_own (by kernel_rfl) T_ok (sget_cons three_ok (sget_cons cost_one_ok (sget_cons whole_ok sget_nil))) Try.func11 rfl rfl fun args hr nb out e => ?_
  unfold sAwake at e
  split at e
  · injection e with e; subst e
    refine ⟨(fun _ h => nomatch h), true, [], rfl, fun hs => ⟨.nil, ?_⟩⟩
    refine evC_go0 (dec := []) (ks := [(0, 0)]) (s' := ⟨[(0, 0, Cont.cell (AV.bool false))], 9, 77⟩) (by kernel_rfl) (by kernel_rfl) ?_
    refine evC_go0 (dec := []) (ks := [(0, 0), (0, 1), (9, 0), (17, 0), (17, 1), (17, 2), (17, 3)]) (s' := ⟨[(0, 0, Cont.cell (AV.bool false)), (0, 1, Cont.cell (AV.ptr 17 0)), (9, 0, Cont.vec 1 4 6 (nB fun x => true)), (17, 0, Cont.cell (AV.int IntKind.i64 3)), (17, 1, Cont.cell (AV.int IntKind.i64 2)), (17, 2, Cont.cell (AV.vs 9)), (17, 3, Cont.top)], 33, 77⟩) (by kernel_rfl) (by kernel_rfl) ?_
    refine evC_wk (s' := ⟨[(0, 0, Cont.cell (AV.bool false)), (0, 1, Cont.cell (AV.ptr 1 0)), (1, 0, Cont.cell (AV.int IntKind.i64 3)), (1, 1, Cont.cell (AV.int IntKind.i64 2)), (1, 2, Cont.cell (AV.vs 2)), (1, 3, Cont.top), (2, 0, .vec 1 4 6 (nB gA))], 3, 77⟩) _ (wk_go [17, 9] rfl (by decide) rfl rfl ⟨⟨_, rfl, rfl⟩, ⟨_, rfl, rfl⟩, ⟨_, rfl, rfl⟩, ⟨_, rfl, rfl⟩, ⟨_, rfl, rfl⟩, ⟨_, rfl, trivial⟩, ⟨_, rfl, ⟨rfl, rfl, rfl, fun _ _ => rfl⟩⟩, trivial⟩) ?_
    refine evC_go (dec := []) (ks := [(0, 0), (0, 1), (0, 2), (0, 3), (1, 0), (1, 1), (1, 2), (1, 3), (2, 0)]) (ps := [IsB (6 : Nat) (nB gA)]) (s' := ⟨[(0, 0, Cont.cell (AV.bool false)), (0, 1, Cont.cell (AV.ptr 1 0)), (0, 2, Cont.cell (AV.int IntKind.i64 (costV 3 2 (Bf (nB gA)) 6 0 5))), (0, 3, Cont.cell (AV.int IntKind.i64 (costE 3 2 (Bf (nB gA)) 6 0 5))), (1, 0, Cont.cell (AV.int IntKind.i64 3)), (1, 1, Cont.cell (AV.int IntKind.i64 2)), (1, 2, Cont.cell (AV.vs 2)), (1, 3, Cont.top), (2, 0, Cont.vec 1 4 6 (nB gA))], 59, 77⟩) (by kernel_rfl) (by kernel_rfl) ?_ ?_
    · exact isB _ _
    rw [Bf_nB, ex1, ex2]
    refine evC_go (dec := []) (ks := [(0, 0), (0, 1), (0, 2), (0, 3), (0, 4), (0, 5), (1, 0), (1, 1), (1, 2), (1, 3), (2, 0), (67, 0)]) (ps := [IsB (6 : Nat) (nB gA)]) (s' := ⟨[(0, 0, Cont.cell (AV.bool false)), (0, 1, Cont.cell (AV.ptr 1 0)), (0, 2, Cont.cell (AV.int IntKind.i64 5)), (0, 3, Cont.cell (AV.int IntKind.i64 0)), (0, 4, Cont.cell (AV.vs 67)), (0, 5, Cont.cell (AV.int IntKind.i64 (errW 3 2 (Bf (nB gA)) 6 0 5 9))), (1, 0, Cont.cell (AV.int IntKind.i64 3)), (1, 1, Cont.cell (AV.int IntKind.i64 2)), (1, 2, Cont.cell (AV.vs 2)), (1, 3, Cont.top), (2, 0, Cont.vec 1 4 6 (nB gA)), (67, 0, Cont.vec 1 3 3 (nL (wayA 3 2 (Bf (nB gA)) 6 0 5 9)))], 115, 77⟩) (by kernel_rfl) (by kernel_rfl) ?_ ?_
    · exact isB _ _
    rw [Bf_nB, ex5, ex6]
    refine evC_go (dec := []) (ks := [(0, 0), (0, 1), (0, 2), (0, 3), (0, 4), (0, 5), (0, 7), (1, 0), (1, 1), (1, 2), (1, 3), (2, 0), (67, 0)]) (ps := [IsB (6 : Nat) (nB gA)]) (s' := ⟨[(0, 0, Cont.cell (AV.bool false)), (0, 1, Cont.cell (AV.ptr 1 0)), (0, 2, Cont.cell (AV.int IntKind.i64 5)), (0, 3, Cont.cell (AV.int IntKind.i64 0)), (0, 4, Cont.cell (AV.vs 67)), (0, 5, Cont.cell (AV.int IntKind.i64 0)), (0, 7, Cont.cell (AV.int IntKind.i64 (errW 3 2 (Bf (nB gA)) 6 0 5 4))), (1, 0, Cont.cell (AV.int IntKind.i64 3)), (1, 1, Cont.cell (AV.int IntKind.i64 2)), (1, 2, Cont.cell (AV.vs 2)), (1, 3, Cont.top), (2, 0, Cont.vec 1 4 6 (nB gA)), (67, 0, Cont.vec 1 3 3 (nL [0, 1, 5]))], 171, 77⟩) (by kernel_rfl) (by kernel_rfl) ?_ ?_
    · exact isB _ _
    rw [Bf_nB, ex8]
    refine evC_go (dec := []) (ks := [(0, 0), (0, 1), (0, 2), (0, 3), (0, 4), (0, 5), (0, 7), (1, 0), (1, 1), (1, 2), (1, 3), (2, 0), (67, 0)]) (ps := [(0 : Int) ≤ (1 : Int), (1 : Int) < (↑(6 : Nat) : Int), (1 : Nat) = (1 : Nat), (0 : Int) ≤ (1 : Int), (1 : Int) < (↑(6 : Nat) : Int), (1 : Nat) = (1 : Nat), widthC (AV.cells (AV.bool false)) = (1 : Nat)]) (s' := ⟨[(0, 0, Cont.cell (AV.bool false)), (0, 1, Cont.cell (AV.ptr 1 0)), (0, 2, Cont.cell (AV.int IntKind.i64 5)), (0, 3, Cont.cell (AV.int IntKind.i64 0)), (0, 4, Cont.cell (AV.vs 67)), (0, 5, Cont.cell (AV.int IntKind.i64 0)), (0, 7, Cont.cell (AV.int IntKind.i64 10)), (1, 0, Cont.cell (AV.int IntKind.i64 3)), (1, 1, Cont.cell (AV.int IntKind.i64 2)), (1, 2, Cont.cell (AV.vs 2)), (1, 3, Cont.top), (2, 0, Cont.vec 1 4 6 fun j => bif j == Int.toNat 1 then AV.bool false else nB gA j), (67, 0, Cont.vec 1 3 3 (nL [0, 1, 5]))], 203, 77⟩) (by kernel_rfl) (by kernel_rfl) ?_ ?_
    · (simp only [All]; (repeat' apply And.intro) <;> (try intro _) <;> (try intro _) <;> (repeat' apply And.intro) <;> (try intro _) <;> (try intro _) <;> first | trivial | assumption | exact .inr trivial | exact .inr rfl | omega | rfl | exact ⟨_, rfl, rfl⟩ | exact ⟨rfl, rfl⟩ | exact ⟨fun _ => rfl, fun _ => rfl⟩ | (unfold maxLen; omega) | (unfold i64R; first | omega | decide) | decide)
    refine evC_wk (s' := ⟨[(0, 0, Cont.cell (AV.bool false)), (0, 1, Cont.cell (AV.ptr 1 0)), (0, 2, Cont.cell (AV.int IntKind.i64 5)), (0, 3, Cont.cell (AV.int IntKind.i64 0)), (0, 4, Cont.cell (AV.vs 2)), (0, 5, Cont.cell (AV.int IntKind.i64 0)), (0, 7, Cont.cell (AV.int IntKind.i64 10)), (1, 0, Cont.cell (AV.int IntKind.i64 3)), (1, 1, Cont.cell (AV.int IntKind.i64 2)), (1, 2, Cont.cell (AV.vs 3)), (1, 3, Cont.top), (2, 0, Cont.vec 1 3 3 (nL [0, 1, 5])), (3, 0, .vec 1 4 6 (nB gB))], 4, 77⟩) _ (wk_go [1, 67, 2] rfl (by decide) rfl rfl ⟨⟨_, rfl, rfl⟩, ⟨_, rfl, rfl⟩, ⟨_, rfl, rfl⟩, ⟨_, rfl, rfl⟩, ⟨_, rfl, rfl⟩, ⟨_, rfl, rfl⟩, ⟨_, rfl, rfl⟩, ⟨_, rfl, rfl⟩, ⟨_, rfl, rfl⟩, ⟨_, rfl, rfl⟩, ⟨_, rfl, trivial⟩, ⟨_, rfl, rfl, rfl, rfl, fun _ _ => rfl⟩, ⟨_, rfl, ?_⟩, trivial⟩) ?_
    · refine ⟨rfl, rfl, rfl, fun j hj => ?_⟩
      show (bif j == Int.toNat 1 then AV.bool false else AV.bool true) = AV.bool (bif j == 1 then false else true)
      show (bif j == 1 then AV.bool false else AV.bool true) = AV.bool (bif j == 1 then false else true)
      cases j == 1 <;> rfl
    refine evC_go (dec := []) (ks := [(0, 0), (0, 2), (0, 3), (0, 4), (0, 5), (0, 7), (0, 8), (0, 9), (2, 0)]) (ps := [IsB (6 : Nat) (nB gB)]) (s' := ⟨[(0, 0, Cont.cell (AV.bool false)), (0, 2, Cont.cell (AV.int IntKind.i64 5)), (0, 3, Cont.cell (AV.int IntKind.i64 0)), (0, 4, Cont.cell (AV.vs 2)), (0, 5, Cont.cell (AV.int IntKind.i64 0)), (0, 7, Cont.cell (AV.int IntKind.i64 10)), (0, 8, Cont.cell (AV.int IntKind.i64 (costV 3 2 (Bf (nB gB)) 6 0 5))), (0, 9, Cont.cell (AV.int IntKind.i64 (costE 3 2 (Bf (nB gB)) 6 0 5))), (2, 0, Cont.vec 1 3 3 (nL [0, 1, 5]))], 60, 77⟩) (by kernel_rfl) (by kernel_rfl) ?_ ?_
    · exact isB _ _
    rw [Bf_nB, ex3, ex4]
    refine evC_go (dec := []) (ks := [(0, 0)]) (ps := [List.all [bif bif (5 : Int) == (5 : Int) then (0 : Int) == (0 : Int) else false then (↑(3 : Nat) : Int) == (3 : Int) else false] id = true → (0 : Int) ≤ (1 : Int), List.all [bif bif (5 : Int) == (5 : Int) then (0 : Int) == (0 : Int) else false then (↑(3 : Nat) : Int) == (3 : Int) else false] id = true → (1 : Int) < (↑(3 : Nat) : Int), List.all [bif bif (5 : Int) == (5 : Int) then (0 : Int) == (0 : Int) else false then (↑(3 : Nat) : Int) == (3 : Int) else false] id = true → (1 : Nat) = (1 : Nat), List.all [bif bif (5 : Int) == (5 : Int) then (0 : Int) == (0 : Int) else false then (↑(3 : Nat) : Int) == (3 : Int) else false] id = true → (0 : Int) ≤ (1 : Int), List.all [bif bif (5 : Int) == (5 : Int) then (0 : Int) == (0 : Int) else false then (↑(3 : Nat) : Int) == (3 : Int) else false] id = true → (1 : Int) < (↑(3 : Nat) : Int), List.all [bif bif (5 : Int) == (5 : Int) then (0 : Int) == (0 : Int) else false then (↑(3 : Nat) : Int) == (3 : Int) else false] id = true → (1 : Nat) = (1 : Nat), List.all [bif bif bif (5 : Int) == (5 : Int) then (0 : Int) == (0 : Int) else false then (↑(3 : Nat) : Int) == (3 : Int) else false then List.getD [(0 : Int), (1 : Int), (5 : Int)] (Int.toNat (1 : Int)) (0 : Int) == (1 : Int) else false] id = true → (0 : Int) ≤ (2 : Int), List.all [bif bif bif (5 : Int) == (5 : Int) then (0 : Int) == (0 : Int) else false then (↑(3 : Nat) : Int) == (3 : Int) else false then List.getD [(0 : Int), (1 : Int), (5 : Int)] (Int.toNat (1 : Int)) (0 : Int) == (1 : Int) else false] id = true → (2 : Int) < (↑(3 : Nat) : Int), List.all [bif bif bif (5 : Int) == (5 : Int) then (0 : Int) == (0 : Int) else false then (↑(3 : Nat) : Int) == (3 : Int) else false then List.getD [(0 : Int), (1 : Int), (5 : Int)] (Int.toNat (1 : Int)) (0 : Int) == (1 : Int) else false] id = true → (1 : Nat) = (1 : Nat), List.all [bif bif bif (5 : Int) == (5 : Int) then (0 : Int) == (0 : Int) else false then (↑(3 : Nat) : Int) == (3 : Int) else false then List.getD [(0 : Int), (1 : Int), (5 : Int)] (Int.toNat (1 : Int)) (0 : Int) == (1 : Int) else false] id = true → (0 : Int) ≤ (2 : Int), List.all [bif bif bif (5 : Int) == (5 : Int) then (0 : Int) == (0 : Int) else false then (↑(3 : Nat) : Int) == (3 : Int) else false then List.getD [(0 : Int), (1 : Int), (5 : Int)] (Int.toNat (1 : Int)) (0 : Int) == (1 : Int) else false] id = true → (2 : Int) < (↑(3 : Nat) : Int), List.all [bif bif bif (5 : Int) == (5 : Int) then (0 : Int) == (0 : Int) else false then (↑(3 : Nat) : Int) == (3 : Int) else false then List.getD [(0 : Int), (1 : Int), (5 : Int)] (Int.toNat (1 : Int)) (0 : Int) == (1 : Int) else false] id = true → (1 : Nat) = (1 : Nat)]) (s' := ⟨[(0, 0, Cont.cell (AV.bool true))], 412, 77⟩) (by kernel_rfl) (by kernel_rfl) ?_ ?_
    · (simp only [All]; (repeat' apply And.intro) <;> (try intro _) <;> (try intro _) <;> (repeat' apply And.intro) <;> (try intro _) <;> (try intro _) <;> first | trivial | assumption | exact .inr trivial | exact .inr rfl | omega | rfl | exact ⟨_, rfl, rfl⟩ | exact ⟨rfl, rfl⟩ | exact ⟨fun _ => rfl, fun _ => rfl⟩ | (unfold maxLen; omega) | (unfold i64R; first | omega | decide) | decide)
    refine evC_ret ?_
    refine post_ret ?_
    refine ends_flat (vs := [AV.bool true]) (Nat.zero_lt_succ _) (by kernel_rfl) (flat_of _ (by kernel_rfl)) rfl ?_
    rfl
  · cases e

/-- The steps that go on the way, as the document has them. -/
def onR (W H : Int) (g : Nat → Bool) (A : Nat → Int) (k s : Nat) : Bool := decide (0 ≤ goR W H g k s) && (decide (0 ≤ A (goR W H g k s).toNat) && (A (goR W H g k s).toNat + prc s == A k))
def nxR (W H : Int) (g : Nat → Bool) (A : Nat → Int) (k : Nat) : Int := bif Nat.blt (fstN (onR W H g A k) 8) 8 then goR W H g k (fstN (onR W H g A k) 8) else -1
structure IsI (n : Nat) (f : Nat → AV) : Prop where
  get : ∀ i, i < n → f i = nI (fun i => iv (f i)) i
def If (f : Nat → AV) : Nat → Int := fun i => iv (f i)
theorem isI (n : Nat) (g : Nat → Int) : IsI n (nI g) := ⟨fun _ _ => rfl⟩
theorem If_nI (g : Nat → Int) : If (nI g) = g := rfl
theorem nI_flat (g : Nat → Int) (i : Nat) : Flat (nI g i) := .int _ _
def sNext : Spec := fun args hr nb => match args with
  | [.agg [.int .i64 W, .int .i64 H, v], z, .int .i64 k] => match sl 1 hr v, sl 1 hr z with
    | some (n, f, rd), some (n2, f2, rd2) => some ⟨[IsB n f, IsI n2 f2, mayL W H n = true, n2 = n, (0 ≤ k ∧ k < n), ∀ q, q < n → -1 ≤ If f2 q ∧ If f2 q ≤ 100000], .int .i64 (nxR W H (Bf f) (If f2) k.toNat), rd ++ rd2, []⟩
    | _, _ => none
  | _ => none
theorem next_ok : SpecOK Try.prog 16 sNext := by
  refine spec_own (by kernel_rfl) T_ok (sget_cons rgoes_ok (sget_cons price_ok sget_nil)) Try.func16 rfl rfl fun args hr nb out e => ?_
  unfold sNext at e
  split at e
  · rename_i W H v z k
    split at e
    · rename_i n f rd n2 f2 rd2 hs1 hs2
      injection e with e; subst e
      refine ⟨fun x hx => (List.mem_append.1 hx).elim (sl_rd hs1 x) (sl_rd hs2 x), false, [ld W H n (Bf f), .rs 1 n2 false (nI (If f2)), .int .i64 k], rfl, fun hs => ?_⟩
      have h1 := hs _ List.mem_cons_self
      have h2 := hs _ (List.mem_cons_of_mem _ List.mem_cons_self)
      have hm := hs _ (List.mem_cons_of_mem _ (List.mem_cons_of_mem _ List.mem_cons_self))
      have hn2 := hs _ (List.mem_cons_of_mem _ (List.mem_cons_of_mem _ (List.mem_cons_of_mem _ List.mem_cons_self)))
      have hk := hs _ (List.mem_cons_of_mem _ (List.mem_cons_of_mem _ (List.mem_cons_of_mem _ (List.mem_cons_of_mem _ List.mem_cons_self))))
      have hb := hs _ (List.mem_cons_of_mem _ (List.mem_cons_of_mem _ (List.mem_cons_of_mem _ (List.mem_cons_of_mem _ (List.mem_cons_of_mem _ List.mem_cons_self)))))
      refine ⟨land_pass hs1 (fun y hy => ⟨List.mem_append_left _ hy, by simp⟩) h1 (.cons _ _ _ _ (.slice _ _ _ _ _ hs2 (fun y hy => ⟨List.mem_append_right _ hy, by simp⟩) _ fun i hi => ⟨h2.get i hi, (nI_flat _ i).has⟩) (.cons _ _ _ _ (.same _ _ (.int _ _)) .nil)), ?_⟩
      clear hs h1 h2
      generalize If f2 = C at hb ⊢
      generalize Bf f = g
      subst hn2
      have i1 := isB n2 g
      obtain ⟨hW, hH, hn, hn1, hn2⟩ := may_get hm
      obtain ⟨k, rfl⟩ := Int.eq_ofNat_of_zero_le hk.1
      rw [Int.toNat_natCast]
      have hkn : k < n2 := by omega
      unfold ld
      refine evC_go0 (dec := []) (ks := [(0, 1), (0, 2), (0, 3), (0, 6), (1, 0), (1, 1), (1, 2), (1, 3)]) (s' := ⟨[(0, 1, Cont.cell (AV.rs 1 n2 false (nI C))), (0, 2, Cont.cell (AV.int IntKind.i64 (↑k : Int))), (0, 3, Cont.cell (AV.ptr 1 0)), (0, 6, Cont.cell (AV.int IntKind.i64 0)), (1, 0, Cont.cell (AV.int IntKind.i64 W)), (1, 1, Cont.cell (AV.int IntKind.i64 H)), (1, 2, Cont.cell (AV.rs 1 n2 false (nB g))), (1, 3, Cont.top)], 17, 41⟩) (by kernel_rfl) (by kernel_rfl) ?_
      refine evC_seq ?_
      refine evC_go0 (dec := []) (ks := [(0, 1), (0, 2), (0, 3), (0, 6), (0, 7), (1, 0), (1, 1), (1, 2), (1, 3)]) (s' := ⟨[(0, 1, Cont.cell (AV.rs 1 n2 false (nI C))), (0, 2, Cont.cell (AV.int IntKind.i64 (↑k : Int))), (0, 3, Cont.cell (AV.ptr 1 0)), (0, 6, Cont.cell (AV.int IntKind.i64 0)), (0, 7, Cont.cell (AV.int IntKind.i64 0)), (1, 0, Cont.cell (AV.int IntKind.i64 W)), (1, 1, Cont.cell (AV.int IntKind.i64 H)), (1, 2, Cont.cell (AV.rs 1 n2 false (nB g))), (1, 3, Cont.top)], 25, 41⟩) (by kernel_rfl) (by kernel_rfl) ?_
      refine evC_block ?_
      refine evC_loop (ι := { s : Nat // s ≤ 8 ∧ ∀ q, q < s → onR W H g C k q = false }) (fun s => ⟨[(0, 1, Cont.cell (AV.rs 1 n2 false (nI C))), (0, 2, Cont.cell (AV.int IntKind.i64 (↑k : Int))), (0, 3, Cont.cell (AV.ptr 1 0)), (0, 6, Cont.cell (AV.int IntKind.i64 0)), (0, 7, .cell (.int .i64 (s.1 : Nat))), (1, 0, Cont.cell (AV.int IntKind.i64 W)), (1, 1, Cont.cell (AV.int IntKind.i64 H)), (1, 2, Cont.cell (AV.rs 1 n2 false (nB g))), (1, 3, Cont.top)], 2, 41⟩) (fun s => 8 - s.1) ⟨0, Nat.zero_le _, fun _ h => absurd h (Nat.not_lt_zero _)⟩ (wk_go [1] rfl (by decide) rfl rfl ⟨⟨_, rfl, rfl⟩, ⟨_, rfl, rfl⟩, ⟨_, rfl, rfl⟩, ⟨_, rfl, rfl⟩, ⟨_, rfl, rfl⟩, ⟨_, rfl, rfl⟩, ⟨_, rfl, rfl⟩, ⟨_, rfl, rfl⟩, ⟨_, rfl, trivial⟩, trivial⟩) ?_
      rintro ⟨s, j1, j2⟩
      refine evC_seq ?_
      refine evC_go0 (dec := []) (ks := [(0, 1), (0, 2), (0, 3), (0, 6), (0, 7), (0, 10), (1, 0), (1, 1), (1, 2), (1, 3)]) (s' := ⟨[(0, 1, Cont.cell (AV.rs 1 n2 false (nI C))), (0, 2, Cont.cell (AV.int IntKind.i64 (↑k : Int))), (0, 3, Cont.cell (AV.ptr 1 0)), (0, 6, Cont.cell (AV.int IntKind.i64 0)), (0, 7, Cont.cell (AV.int IntKind.i64 (↑s : Int))), (0, 10, Cont.cell (AV.bool (decide ((↑s : Int) < 8)))), (1, 0, Cont.cell (AV.int IntKind.i64 W)), (1, 1, Cont.cell (AV.int IntKind.i64 H)), (1, 2, Cont.cell (AV.rs 1 n2 false (nB g))), (1, 3, Cont.top)], 18, 41⟩) (by kernel_rfl) (by kernel_rfl) ?_
      refine evC_if (q := decide ((↑s : Int) < 8)) (by kernel_rfl) (fun hc => ?_) (fun hc => ?_)
      · have hs8 : s < 8 := by have := of_decide_eq_true hc; omega
        clear hc
        have hqr := goR_rng (g := g) (s := s) hm (c := (k : Int)) ⟨by omega, by omega⟩
        refine evC_skip ?_
        refine then_normal ?_
        refine evC_seq ?_
        refine evC_block ?_
        refine evC_go (dec := []) (ks := [(0, 1), (0, 2), (0, 3), (0, 6), (0, 7), (0, 8), (1, 0), (1, 1), (1, 2), (1, 3)]) (ps := [IsB n2 (nB g), mayL W H n2 = true, ((0 : Int) ≤ (↑k : Int) ∧ (↑k : Int) < (↑n2 : Int)) ∧ (0 : Int) ≤ (↑s : Int) ∧ (↑s : Int) < (8 : Int)]) (s' := ⟨[(0, 1, Cont.cell (AV.rs 1 n2 false (nI C))), (0, 2, Cont.cell (AV.int IntKind.i64 (↑k : Int))), (0, 3, Cont.cell (AV.ptr 1 0)), (0, 6, Cont.cell (AV.int IntKind.i64 0)), (0, 7, Cont.cell (AV.int IntKind.i64 (↑s : Int))), (0, 8, Cont.cell (AV.int IntKind.i64 (goR W H (Bf (nB g)) (↑k : Int) s))), (1, 0, Cont.cell (AV.int IntKind.i64 W)), (1, 1, Cont.cell (AV.int IntKind.i64 H)), (1, 2, Cont.cell (AV.rs 1 n2 false (nB g))), (1, 3, Cont.top)], 58, 41⟩) (by kernel_rfl) (by kernel_rfl) ?_ ?_
        · exact ⟨i1, hm, ⟨by omega, by omega⟩, by omega, by omega⟩
        rw [Bf_nB]
        have hpr := prc_pos s
        have big : ∀ q : Nat, q < n2 → IntKind.i64.wrap (C q + prc s) = C q + prc s := fun q hq => by
          have := hb q hq
          exact i64_in _ (by omega)
        have hlt : (goR W H g k s).toNat < n2 := by omega
        refine evC_go (dec := []) (ks := [(0, 1), (0, 2), (0, 3), (0, 6), (0, 7), (0, 8), (0, 39), (1, 0), (1, 1), (1, 2), (1, 3)]) (ps := [List.all [decide (goR W H g (↑k : Int) s ≥ (0 : Int))] id = true → (0 : Int) ≤ goR W H g (↑k : Int) s, List.all [decide (goR W H g (↑k : Int) s ≥ (0 : Int))] id = true → goR W H g (↑k : Int) s < (↑n2 : Int), List.all [decide (goR W H g (↑k : Int) s ≥ (0 : Int))] id = true → (1 : Nat) = (1 : Nat), List.all [bif decide (goR W H g (↑k : Int) s ≥ (0 : Int)) then decide (C (Int.toNat (goR W H g (↑k : Int) s)) ≥ (0 : Int)) else false] id = true → (0 : Int) ≤ goR W H g (↑k : Int) s, List.all [bif decide (goR W H g (↑k : Int) s ≥ (0 : Int)) then decide (C (Int.toNat (goR W H g (↑k : Int) s)) ≥ (0 : Int)) else false] id = true → goR W H g (↑k : Int) s < (↑n2 : Int), List.all [bif decide (goR W H g (↑k : Int) s ≥ (0 : Int)) then decide (C (Int.toNat (goR W H g (↑k : Int) s)) ≥ (0 : Int)) else false] id = true → (1 : Nat) = (1 : Nat), List.all [bif decide (goR W H g (↑k : Int) s ≥ (0 : Int)) then decide (C (Int.toNat (goR W H g (↑k : Int) s)) ≥ (0 : Int)) else false] id = true → (0 : Int) ≤ (↑s : Int) ∧ (↑s : Int) < (8 : Int), List.all [bif decide (goR W H g (↑k : Int) s ≥ (0 : Int)) then decide (C (Int.toNat (goR W H g (↑k : Int) s)) ≥ (0 : Int)) else false] id = true → (0 : Int) ≤ (↑k : Int), List.all [bif decide (goR W H g (↑k : Int) s ≥ (0 : Int)) then decide (C (Int.toNat (goR W H g (↑k : Int) s)) ≥ (0 : Int)) else false] id = true → (↑k : Int) < (↑n2 : Int), List.all [bif decide (goR W H g (↑k : Int) s ≥ (0 : Int)) then decide (C (Int.toNat (goR W H g (↑k : Int) s)) ≥ (0 : Int)) else false] id = true → (1 : Nat) = (1 : Nat)]) (s' := ⟨[(0, 1, Cont.cell (AV.rs 1 n2 false (nI C))), (0, 2, Cont.cell (AV.int IntKind.i64 (↑k : Int))), (0, 3, Cont.cell (AV.ptr 1 0)), (0, 6, Cont.cell (AV.int IntKind.i64 0)), (0, 7, Cont.cell (AV.int IntKind.i64 (↑s : Int))), (0, 8, Cont.cell (AV.int IntKind.i64 (goR W H g (↑k : Int) s))), (0, 39, Cont.cell (AV.bool (bif bif decide (goR W H g (↑k : Int) s ≥ 0) then decide (C (Int.toNat (goR W H g (↑k : Int) s)) ≥ 0) else false then IntKind.i64.wrap (C (Int.toNat (goR W H g (↑k : Int) s)) + prc s) == C k else false))), (1, 0, Cont.cell (AV.int IntKind.i64 W)), (1, 1, Cont.cell (AV.int IntKind.i64 H)), (1, 2, Cont.cell (AV.rs 1 n2 false (nB g))), (1, 3, Cont.top)], 242, 41⟩) (by kernel_rfl) (by kernel_rfl) ?_ ?_
        · simp only [All]
          repeat' apply And.intro
          all_goals (intro h; first | trivial | omega | (simp at h; omega))
        rw [big _ hlt]
        have hcond : (bif bif decide (goR W H g k s ≥ 0) then decide (C (goR W H g k s).toNat ≥ 0) else false then C (goR W H g k s).toNat + prc s == C k else false) = onR W H g C k s := by
          unfold onR
          simp only [cond_and, ge_iff_le, Bool.and_assoc]
        rw [hcond]
        clear hcond
        refine evC_if (q := onR W H g C k s) (by kernel_rfl) (fun hc => ?_) (fun hc => ?_)
        · have hF : fstN (onR W H g C k) 8 = s := fst_at hs8 hc j2
          clear hc
          refine evC_go0 (dec := []) (ks := [(0, 1), (0, 2), (0, 3), (0, 6), (0, 7), (1, 0), (1, 1), (1, 2), (1, 3)]) (s' := ⟨[(0, 1, Cont.cell (AV.rs 1 n2 false (nI C))), (0, 2, Cont.cell (AV.int IntKind.i64 (↑k : Int))), (0, 3, Cont.cell (AV.ptr 1 0)), (0, 6, Cont.cell (AV.int IntKind.i64 (goR W H g (↑k : Int) s))), (0, 7, Cont.cell (AV.int IntKind.i64 (↑s : Int))), (1, 0, Cont.cell (AV.int IntKind.i64 W)), (1, 1, Cont.cell (AV.int IntKind.i64 H)), (1, 2, Cont.cell (AV.rs 1 n2 false (nB g))), (1, 3, Cont.top)], 258, 41⟩) (by kernel_rfl) (by kernel_rfl) ?_
          refine evC_ret ?_
          refine block_ret ?_
          refine then_ret ?_
          refine round_ret ?_
          refine block_ret ?_
          refine then_ret ?_
          refine post_ret ?_
          refine ends_flat (vs := [AV.int IntKind.i64 (goR W H g (↑k : Int) s)]) (Nat.zero_lt_succ _) (by kernel_rfl) (flat_of _ (by kernel_rfl)) rfl ?_
          unfold nxR
          rw [hF, nblt_yes hs8]
          rfl
        · refine evC_skip ?_
          refine block_normal ?_
          refine then_normal ?_
          refine evC_goL0 (dec := []) (ks := [(0, 1), (0, 2), (0, 3), (0, 6), (0, 7), (1, 0), (1, 1), (1, 2), (1, 3)]) (s' := ⟨[(0, 1, Cont.cell (AV.rs 1 n2 false (nI C))), (0, 2, Cont.cell (AV.int IntKind.i64 (↑k : Int))), (0, 3, Cont.cell (AV.ptr 1 0)), (0, 6, Cont.cell (AV.int IntKind.i64 0)), (0, 7, Cont.cell (AV.int IntKind.i64 (IntKind.i64.wrap ((↑s : Int) + 1)))), (1, 0, Cont.cell (AV.int IntKind.i64 W)), (1, 1, Cont.cell (AV.int IntKind.i64 H)), (1, 2, Cont.cell (AV.rs 1 n2 false (nB g))), (1, 3, Cont.top)], 266, 41⟩) (by kernel_rfl) (by kernel_rfl) ?_
          rw [wrap_add_one hs8 (by omega)]
          refine round_normal (⟨s + 1, hs8, fun q h => by rcases Nat.lt_succ_iff_lt_or_eq.1 h with h | h; exact j2 q h; rw [h]; exact hc⟩) (wk_go [1] rfl (by decide) rfl rfl ⟨⟨_, rfl, rfl⟩, ⟨_, rfl, rfl⟩, ⟨_, rfl, rfl⟩, ⟨_, rfl, rfl⟩, ⟨_, rfl, rfl⟩, ⟨_, rfl, rfl⟩, ⟨_, rfl, rfl⟩, ⟨_, rfl, rfl⟩, ⟨_, rfl, trivial⟩, trivial⟩) ?_
          · show 8 - (s + 1) < 8 - s
            omega
      · have hs8 : s = 8 := by have := of_decide_eq_false hc; omega
        subst hs8
        refine evC_exit ?_
        refine then_exit ?_
        refine round_exit ?_
        refine block_exit ?_
        refine then_normal ?_
        refine evC_go0 (dec := []) (ks := [(0, 6)]) (s' := ⟨[(0, 6, Cont.cell (AV.int IntKind.i64 (-1)))], 26, 41⟩) (by kernel_rfl) (by kernel_rfl) ?_
        refine evC_ret ?_
        refine post_ret ?_
        refine ends_flat (vs := [AV.int IntKind.i64 (-1)]) (Nat.zero_lt_succ _) (by kernel_rfl) (flat_of _ (by kernel_rfl)) rfl ?_
        unfold nxR
        rw [fst_none j2]
        rfl
    · cases e
  · cases e
end Go.Eng.S13
